/- The walk of the law BitvecWraps (printed by genua.py). -/
import Derived.Test.YtgmcajojigedaaaUb
import Derived.Test.YtgmcajojigedaaaUc
import Derived.Test.YtgmcajojigedaaaUd
set_option linter.unusedSimpArgs false
set_option linter.unusedVariables false
namespace Go.Proofs.Ytgmcajojigedaaa
open Go.RowKit
theorem wraps_walk (q a b : Int) (w : World) : Calls Try.prog 15 #[.int .i64 q, .int .i64 a, .int .i64 b] w fun e w' => e = .returned (.bool true) ∧ Below w.heap.size w w' := by
  by_cases h : q < 2 ∨ 8 < q
  · exact wraps_no q a b w h
  · by_cases hl : a ≤ 1073741824 ∧ -1073741824 ≤ a ∧ b ≤ 1073741824 ∧ -1073741824 ≤ b
    · obtain ⟨l1, l2, l3, l4⟩ := hl
      rcases width_cases (w := q) (by omega) (by omega) with rfl | rfl | rfl | rfl | rfl | rfl | rfl
      · exact wraps_2 a b w l1 l2 l3 l4
      · exact wraps_3 a b w l1 l2 l3 l4
      · exact wraps_4 a b w l1 l2 l3 l4
      · exact wraps_5 a b w l1 l2 l3 l4
      · exact wraps_6 a b w l1 l2 l3 l4
      · exact wraps_7 a b w l1 l2 l3 l4
      · exact wraps_8 a b w l1 l2 l3 l4
    · exact wraps_far q a b w (by omega) (by omega) hl
end Go.Proofs.Ytgmcajojigedaaa
