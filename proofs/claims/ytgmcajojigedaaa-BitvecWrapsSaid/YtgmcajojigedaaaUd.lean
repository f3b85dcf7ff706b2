/- The walk of the law BitvecWraps at some widths (printed by genua.py). -/
import Derived.Test.YtgmcajojigedaaaUa
set_option linter.unusedSimpArgs false
set_option linter.unusedVariables false
namespace Go.Proofs.Ytgmcajojigedaaa
open Go.RowKit

set_option maxRecDepth 100000 in
set_option maxHeartbeats 2000000 in
theorem wraps_7 (a b : Int) (w : World) (l1 : a ≤ 1073741824) (l2 : -1073741824 ≤ a) (l3 : b ≤ 1073741824) (l4 : -1073741824 ≤ b) : Calls Try.prog 15 #[.int .i64 7, .int .i64 a, .int .i64 b] w fun e w' => e = .returned (.bool true) ∧ Below w.heap.size w w' := by
  obtain ⟨x, hx⟩ : ∃ x, wrapW 7 a = x := ⟨_, rfl⟩
  obtain ⟨y, hy⟩ : ∃ y, wrapW 7 b = y := ⟨_, rfl⟩
  obtain ⟨s, hs⟩ : ∃ s, wrapW 7 (a + b) = s := ⟨_, rfl⟩
  obtain ⟨P, hP⟩ : ∃ P, a * b = P := ⟨_, rfl⟩
  obtain ⟨Q, hQ⟩ : ∃ Q, x * y = Q := ⟨_, rfl⟩
  obtain ⟨t, ht⟩ : ∃ t, wrapW 7 P = t := ⟨_, rfl⟩
  obtain ⟨u, hu⟩ : ∃ u, wrapW 7 (-a) = u := ⟨_, rfl⟩
  have HX := Lib.hid hx
  have HY := Lib.hid hy
  have HS := Lib.hid hs
  have HT := Lib.hid ht
  have HU := Lib.hid hu
  have HX2 : Hid (wrapW 7 x = x) := by show _ = _; rw [← hx, wrapW_idem]
  have HS2 : Hid (wrapW 7 (x + y) = s) := by show _ = _; rw [← hx, ← hy, wrapW_add, hs]
  have HT2 : Hid (wrapW 7 Q = t) := by show _ = _; rw [← hQ, ← hx, ← hy, wrapW_mul, hP, ht]
  have HU2 : Hid (wrapW 7 (-x) = u) := by show _ = _; rw [← hx, wrapW_neg, hu]
  have bP := mul_bd l2 l1 l4 l3
  have bx : -64 ≤ x ∧ x < 64 ∧ (a - x).tmod 128 = 0 := by
    rw [wr_7, Int.bmod_def] at hx
    have : (a - x).tmod 128 = 0 := by
      apply Int.tmod_eq_zero_of_dvd
      split at hx <;> omega
    split at hx <;> omega
  have by' : -64 ≤ y ∧ y < 64 := by
    rw [wr_7, Int.bmod_def] at hy
    split at hy <;> omega
  have bQ := mul_bd (k := 64) bx.1 (by omega) by'.1 (by omega)
  rw [hP] at bP
  rw [hQ] at bQ
  obtain ⟨bx1, bx2, hm⟩ := bx
  obtain ⟨by1, by2⟩ := by'
  obtain ⟨bP1, bP2⟩ := bP
  obtain ⟨bQ1, bQ2⟩ := bQ
  have kP : IntKind.i64.wrap (a * b) = P := by rw [hP, IntKind.wrap_i64]; omega
  have kQ : IntKind.i64.wrap (x * y) = Q := by rw [hQ, IntKind.wrap_i64]; omega
  have ka : IntKind.i64.wrap (a + b) = a + b := by rw [IntKind.wrap_i64]; omega
  have kx : IntKind.i64.wrap (x + y) = x + y := by rw [IntKind.wrap_i64]; omega
  have kd : IntKind.i64.wrap (a - x) = a - x := by rw [IntKind.wrap_i64]; omega
  have kn : IntKind.i64.wrap (-a) = -a := by rw [IntKind.wrap_i64]; omega
  have kxn : IntKind.i64.wrap (-x) = -x := by rw [IntKind.wrap_i64]; omega
  have d1 : decide (a > 1073741824) = false := decide_eq_false (by omega)
  have d2 : decide (a < -1073741824) = false := decide_eq_false (by omega)
  have d3 : decide (b > 1073741824) = false := decide_eq_false (by omega)
  have d4 : decide (b < -1073741824) = false := decide_eq_false (by omega)
  have d5 : decide (x ≥ -64) = true := decide_eq_true (by omega)
  have d6 : decide (x < 64) = true := decide_eq_true (by omega)
  clear hx hy hs ht hu hP hQ
  have HC : Hid ((w.alloc (.cells #[.int .i64 7] 3)).cell? ⟨w.heap.size, 0, none⟩ = some (.int .i64 7)) := World.cell?_alloc_at _ _ _ 0 rfl
  have HBW : Hid (Below w.heap.size w (w.alloc (.cells #[.int .i64 7] 3))) := below_alloc _ _
  go_enter Try.func15, Try.ntmps15
  go_wp2_with (first
    | (go_at_call 76; go_must (refine (awake22 _).mono ?_; rintro e w1 ⟨rfl, hb1⟩; have hc1 : w1.cell? ⟨w.heap.size, 0, none⟩ = some (.int .i64 7) := (World.cell?_of_block (hb1.block _ (by simp))).trans HC.out; have HC1 := Lib.hid hc1; have HB1 := Lib.hid (below_of1 hb1); clear hb1))
    | (go_at_call 23; go_must (refine (isWidth_yes _ _ (by omega) (by omega)).mono ?_; rintro e w2 ⟨rfl, rfl⟩))
    | (go_at_call 81; go_must (refine (clos81_v HC1.out (by first | exact HX.out | exact HX2.out | exact HY.out | exact HS.out | exact HS2.out | exact HT.out | exact HT2.out | exact HU.out | exact HU2.out)).mono ?_; rintro e w3 ⟨rfl, rfl⟩)))
  go_ret
  exact ⟨rfl, HB1.out⟩

set_option maxRecDepth 100000 in
set_option maxHeartbeats 2000000 in
theorem wraps_8 (a b : Int) (w : World) (l1 : a ≤ 1073741824) (l2 : -1073741824 ≤ a) (l3 : b ≤ 1073741824) (l4 : -1073741824 ≤ b) : Calls Try.prog 15 #[.int .i64 8, .int .i64 a, .int .i64 b] w fun e w' => e = .returned (.bool true) ∧ Below w.heap.size w w' := by
  obtain ⟨x, hx⟩ : ∃ x, wrapW 8 a = x := ⟨_, rfl⟩
  obtain ⟨y, hy⟩ : ∃ y, wrapW 8 b = y := ⟨_, rfl⟩
  obtain ⟨s, hs⟩ : ∃ s, wrapW 8 (a + b) = s := ⟨_, rfl⟩
  obtain ⟨P, hP⟩ : ∃ P, a * b = P := ⟨_, rfl⟩
  obtain ⟨Q, hQ⟩ : ∃ Q, x * y = Q := ⟨_, rfl⟩
  obtain ⟨t, ht⟩ : ∃ t, wrapW 8 P = t := ⟨_, rfl⟩
  obtain ⟨u, hu⟩ : ∃ u, wrapW 8 (-a) = u := ⟨_, rfl⟩
  have HX := Lib.hid hx
  have HY := Lib.hid hy
  have HS := Lib.hid hs
  have HT := Lib.hid ht
  have HU := Lib.hid hu
  have HX2 : Hid (wrapW 8 x = x) := by show _ = _; rw [← hx, wrapW_idem]
  have HS2 : Hid (wrapW 8 (x + y) = s) := by show _ = _; rw [← hx, ← hy, wrapW_add, hs]
  have HT2 : Hid (wrapW 8 Q = t) := by show _ = _; rw [← hQ, ← hx, ← hy, wrapW_mul, hP, ht]
  have HU2 : Hid (wrapW 8 (-x) = u) := by show _ = _; rw [← hx, wrapW_neg, hu]
  have bP := mul_bd l2 l1 l4 l3
  have bx : -128 ≤ x ∧ x < 128 ∧ (a - x).tmod 256 = 0 := by
    rw [wr_8, Int.bmod_def] at hx
    have : (a - x).tmod 256 = 0 := by
      apply Int.tmod_eq_zero_of_dvd
      split at hx <;> omega
    split at hx <;> omega
  have by' : -128 ≤ y ∧ y < 128 := by
    rw [wr_8, Int.bmod_def] at hy
    split at hy <;> omega
  have bQ := mul_bd (k := 128) bx.1 (by omega) by'.1 (by omega)
  rw [hP] at bP
  rw [hQ] at bQ
  obtain ⟨bx1, bx2, hm⟩ := bx
  obtain ⟨by1, by2⟩ := by'
  obtain ⟨bP1, bP2⟩ := bP
  obtain ⟨bQ1, bQ2⟩ := bQ
  have kP : IntKind.i64.wrap (a * b) = P := by rw [hP, IntKind.wrap_i64]; omega
  have kQ : IntKind.i64.wrap (x * y) = Q := by rw [hQ, IntKind.wrap_i64]; omega
  have ka : IntKind.i64.wrap (a + b) = a + b := by rw [IntKind.wrap_i64]; omega
  have kx : IntKind.i64.wrap (x + y) = x + y := by rw [IntKind.wrap_i64]; omega
  have kd : IntKind.i64.wrap (a - x) = a - x := by rw [IntKind.wrap_i64]; omega
  have kn : IntKind.i64.wrap (-a) = -a := by rw [IntKind.wrap_i64]; omega
  have kxn : IntKind.i64.wrap (-x) = -x := by rw [IntKind.wrap_i64]; omega
  have d1 : decide (a > 1073741824) = false := decide_eq_false (by omega)
  have d2 : decide (a < -1073741824) = false := decide_eq_false (by omega)
  have d3 : decide (b > 1073741824) = false := decide_eq_false (by omega)
  have d4 : decide (b < -1073741824) = false := decide_eq_false (by omega)
  have d5 : decide (x ≥ -128) = true := decide_eq_true (by omega)
  have d6 : decide (x < 128) = true := decide_eq_true (by omega)
  clear hx hy hs ht hu hP hQ
  have HC : Hid ((w.alloc (.cells #[.int .i64 8] 3)).cell? ⟨w.heap.size, 0, none⟩ = some (.int .i64 8)) := World.cell?_alloc_at _ _ _ 0 rfl
  have HBW : Hid (Below w.heap.size w (w.alloc (.cells #[.int .i64 8] 3))) := below_alloc _ _
  go_enter Try.func15, Try.ntmps15
  go_wp2_with (first
    | (go_at_call 76; go_must (refine (awake22 _).mono ?_; rintro e w1 ⟨rfl, hb1⟩; have hc1 : w1.cell? ⟨w.heap.size, 0, none⟩ = some (.int .i64 8) := (World.cell?_of_block (hb1.block _ (by simp))).trans HC.out; have HC1 := Lib.hid hc1; have HB1 := Lib.hid (below_of1 hb1); clear hb1))
    | (go_at_call 23; go_must (refine (isWidth_yes _ _ (by omega) (by omega)).mono ?_; rintro e w2 ⟨rfl, rfl⟩))
    | (go_at_call 81; go_must (refine (clos81_v HC1.out (by first | exact HX.out | exact HX2.out | exact HY.out | exact HS.out | exact HS2.out | exact HT.out | exact HT2.out | exact HU.out | exact HU2.out)).mono ?_; rintro e w3 ⟨rfl, rfl⟩)))
  go_ret
  exact ⟨rfl, HB1.out⟩
end Go.Proofs.Ytgmcajojigedaaa
