/- The walk of the law BitvecWraps (printed by genua.py). -/
import Derived.Test.YtgmcajojigedaaaTp
set_option linter.unusedSimpArgs false
set_option linter.unusedVariables false
namespace Go.Proofs.Ytgmcajojigedaaa
open Go.RowKit

theorem clos81_v {a n r : Int} {b : Nat} {w : World} (hc : w.cell? ⟨b, 0, none⟩ = some (.int .i64 a)) (hr : wrapW a n = r) :
    Calls Try.prog 81 #[.int .i64 n, .pointer (some ⟨b, 0, none⟩)] w fun e w' => e = .returned (.int .i64 r) ∧ w = w' := by
  have HR := Lib.hid hr
  clear hr
  go_enter Try.func81, Try.ntmps81
  go_wp2_with (go_at_call 25; go_must (refine (wrap_v HR.out _).mono ?_; rintro e w1 ⟨rfl, rfl⟩))
  go_ret
  exact ⟨rfl, rfl⟩
theorem wrapW_idem (a n : Int) : wrapW a (wrapW a n) = wrapW a n := by
  unfold wrapW; split
  · exact Int.bmod_bmod
  · rfl
theorem wrapW_add (a m n : Int) : wrapW a (wrapW a m + wrapW a n) = wrapW a (m + n) := by
  unfold wrapW; split
  · rw [Int.bmod_add_bmod, Int.add_bmod_bmod]
  · rfl
theorem wrapW_mul (a m n : Int) : wrapW a (wrapW a m * wrapW a n) = wrapW a (m * n) := by
  unfold wrapW; split
  · rw [Int.bmod_mul_bmod, Int.mul_bmod_bmod]
  · rfl
theorem wrapW_neg (a m : Int) : wrapW a (-wrapW a m) = wrapW a (-m) := by
  unfold wrapW; split
  · rw [Int.bmod_neg_bmod]
  · rfl
theorem mul_bd {a b k : Int} (ha1 : -k ≤ a) (ha2 : a ≤ k) (hb1 : -k ≤ b) (hb2 : b ≤ k) : -(k * k) ≤ a * b ∧ a * b ≤ k * k := by
  have h1 : a.natAbs ≤ k.natAbs := by omega
  have h2 : b.natAbs ≤ k.natAbs := by omega
  have h3 : (a * b).natAbs ≤ (k * k).natAbs := by rw [Int.natAbs_mul, Int.natAbs_mul]; exact Nat.mul_le_mul h1 h2
  have h4 : 0 ≤ k * k := Int.mul_nonneg (by omega) (by omega)
  omega

theorem wraps_no (q a b : Int) (w : World) (h : q < 2 ∨ 8 < q) : Calls Try.prog 15 #[.int .i64 q, .int .i64 a, .int .i64 b] w fun e w' => e = .returned (.bool true) ∧ Below w.heap.size w w' := by
  have HC : Hid ((w.alloc (.cells #[.int .i64 q] 3)).cell? ⟨w.heap.size, 0, none⟩ = some (.int .i64 q)) := World.cell?_alloc_at _ _ _ 0 rfl
  have hz : wrapW q a = 0 := wr_out _ h
  have HZ := Lib.hid hz
  clear hz
  go_enter Try.func15, Try.ntmps15
  go_wp2_with (first
    | (go_at_call 76; go_must (refine (awake22 _).mono ?_; rintro e w1 ⟨rfl, hb1⟩; have hc1 : w1.cell? ⟨w.heap.size, 0, none⟩ = some (.int .i64 q) := (World.cell?_of_block (hb1.block _ (by simp))).trans HC.out; have HC1 := Lib.hid hc1; have HB1 := Lib.hid (below_of1 hb1); clear hb1))
    | (go_at_call 25; go_must (refine (wrap_v HZ.out _).mono ?_; rintro e w2 ⟨rfl, rfl⟩))
    | (go_at_call 23; go_must (refine (isWidth_no _ _ h).mono ?_; rintro e w2 ⟨rfl, rfl⟩)))
  go_ret
  exact ⟨rfl, HB1.out⟩
theorem wraps_far (q a b : Int) (w : World) (h1 : 2 ≤ q) (h2 : q ≤ 8) (h : ¬ (a ≤ 1073741824 ∧ -1073741824 ≤ a ∧ b ≤ 1073741824 ∧ -1073741824 ≤ b)) : Calls Try.prog 15 #[.int .i64 q, .int .i64 a, .int .i64 b] w fun e w' => e = .returned (.bool true) ∧ Below w.heap.size w w' := by
  have HC : Hid ((w.alloc (.cells #[.int .i64 q] 3)).cell? ⟨w.heap.size, 0, none⟩ = some (.int .i64 q)) := World.cell?_alloc_at _ _ _ 0 rfl
  have hh : a > 1073741824 ∨ (a ≤ 1073741824 ∧ a < -1073741824) ∨ ((a ≤ 1073741824 ∧ ¬ a < -1073741824) ∧ b > 1073741824) ∨ ((a ≤ 1073741824 ∧ ¬ a < -1073741824) ∧ b ≤ 1073741824 ∧ b < -1073741824) := by omega
  clear h
  rcases hh with h | ⟨h3, h⟩ | ⟨⟨h3, h4⟩, h⟩ | ⟨⟨h3, h4⟩, h5, h⟩
  · have d1 : decide (a > 1073741824) = true := decide_eq_true h
    go_enter Try.func15, Try.ntmps15
    go_wp2_with (first
      | (go_at_call 76; go_must (refine (awake22 _).mono ?_; rintro e w1 ⟨rfl, hb1⟩; have hc1 : w1.cell? ⟨w.heap.size, 0, none⟩ = some (.int .i64 q) := (World.cell?_of_block (hb1.block _ (by simp))).trans HC.out; have HC1 := Lib.hid hc1; have HB1 := Lib.hid (below_of1 hb1); clear hb1))
      | (go_at_call 23; go_must (refine (isWidth_yes _ _ h1 h2).mono ?_; rintro e w2 ⟨rfl, rfl⟩)))
    go_ret
    exact ⟨rfl, HB1.out⟩
  · have d1 : decide (a > 1073741824) = false := decide_eq_false (by omega)
    have d2 : decide (a < -1073741824) = true := decide_eq_true h
    go_enter Try.func15, Try.ntmps15
    go_wp2_with (first
      | (go_at_call 76; go_must (refine (awake22 _).mono ?_; rintro e w1 ⟨rfl, hb1⟩; have hc1 : w1.cell? ⟨w.heap.size, 0, none⟩ = some (.int .i64 q) := (World.cell?_of_block (hb1.block _ (by simp))).trans HC.out; have HC1 := Lib.hid hc1; have HB1 := Lib.hid (below_of1 hb1); clear hb1))
      | (go_at_call 23; go_must (refine (isWidth_yes _ _ h1 h2).mono ?_; rintro e w2 ⟨rfl, rfl⟩)))
    go_ret
    exact ⟨rfl, HB1.out⟩
  · have d1 : decide (a > 1073741824) = false := decide_eq_false (by omega)
    have d2 : decide (a < -1073741824) = false := decide_eq_false h4
    have d3 : decide (b > 1073741824) = true := decide_eq_true h
    go_enter Try.func15, Try.ntmps15
    go_wp2_with (first
      | (go_at_call 76; go_must (refine (awake22 _).mono ?_; rintro e w1 ⟨rfl, hb1⟩; have hc1 : w1.cell? ⟨w.heap.size, 0, none⟩ = some (.int .i64 q) := (World.cell?_of_block (hb1.block _ (by simp))).trans HC.out; have HC1 := Lib.hid hc1; have HB1 := Lib.hid (below_of1 hb1); clear hb1))
      | (go_at_call 23; go_must (refine (isWidth_yes _ _ h1 h2).mono ?_; rintro e w2 ⟨rfl, rfl⟩)))
    go_ret
    exact ⟨rfl, HB1.out⟩
  · have d1 : decide (a > 1073741824) = false := decide_eq_false (by omega)
    have d2 : decide (a < -1073741824) = false := decide_eq_false h4
    have d3 : decide (b > 1073741824) = false := decide_eq_false (by omega)
    have d4 : decide (b < -1073741824) = true := decide_eq_true h
    go_enter Try.func15, Try.ntmps15
    go_wp2_with (first
      | (go_at_call 76; go_must (refine (awake22 _).mono ?_; rintro e w1 ⟨rfl, hb1⟩; have hc1 : w1.cell? ⟨w.heap.size, 0, none⟩ = some (.int .i64 q) := (World.cell?_of_block (hb1.block _ (by simp))).trans HC.out; have HC1 := Lib.hid hc1; have HB1 := Lib.hid (below_of1 hb1); clear hb1))
      | (go_at_call 23; go_must (refine (isWidth_yes _ _ h1 h2).mono ?_; rintro e w2 ⟨rfl, rfl⟩)))
    go_ret
    exact ⟨rfl, HB1.out⟩
end Go.Proofs.Ytgmcajojigedaaa
