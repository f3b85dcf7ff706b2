/- The walk of the law BlastOperators: all inputs. -/
import Derived.Test.YtgmcajojigedaaaHf
import Derived.Test.YtgmcajojigedaaaHg
set_option linter.unusedSimpArgs false
set_option linter.unusedVariables false
namespace Go.Proofs.Ytgmcajojigedaaa
open Go.RowKit
set_option maxRecDepth 100000 in
set_option maxHeartbeats 1000000 in
theorem operators_walk (a x y : Int) (c : Bool) (w : World) : Calls Try.prog 6 #[.int .i64 a, .int .i64 x, .int .i64 y, .bool c] w fun e w' => e = .returned (.bool true) ∧ Below w.heap.size w w' := by
  by_cases h : 2 ≤ a ∧ a ≤ 8
  · obtain ⟨q, rfl⟩ := Int.eq_ofNat_of_zero_le (show 0 ≤ a by omega)
    cases c
    · exact ops_f q (by omega) (by omega) x y w
    · exact ops_t q (by omega) (by omega) x y w
  · have hno : a < 2 ∨ 8 < a := by omega
    clear h
    go_enter Try.func6, Try.ntmps6
    go_wp2_with (first
      | (go_at_call 22; refine (awake_any _).mono ?_; rintro e w1 ⟨rfl, hb1⟩; have HB1 := Lib.hid hb1; clear hb1)
      | (go_at_call 23; refine (isWidth_no _ _ hno).mono ?_; rintro e w2 ⟨rfl, rfl⟩))
    go_ret
    exact ⟨rfl, HB1.out⟩
end Go.Proofs.Ytgmcajojigedaaa
