/- The walk of the law BitvecDivides. -/
import Derived.Test.YtgmcajojigedaaaUa
set_option linter.unusedSimpArgs false
set_option linter.unusedVariables false
namespace Go.Proofs.Ytgmcajojigedaaa
open Go.RowKit

def div4 : List Tm := [⟨0, 0, 0, 0, 0⟩, ⟨0, 1, 0, 0, 0⟩, ⟨8, 0, 0, 1, 0⟩, ⟨9, 0, 0, 1, 0⟩]
def divT (q : Int) : TS := ⟨q, div4⟩
theorem build_div (q : Int) : buildF q div4 = divT q := by rfl
theorem div_wf {q : Int} (h1 : 2 ≤ q) (h2 : q ≤ 8) : TWf (divT q) := by rw [← build_div]; exact buildF_wf h1 h2 _
section
variable {q x y : Int} (h1 : 2 ≤ q) (h2 : q ≤ 8) (hx : wrapW q x = x) (hy : wrapW q y = y)
include hx in
theorem div_v0 : vAt (divT q) [x, y] 0 = some x := by
  rw [vAt_leaf (t := ⟨0, 0, 0, 0, 0⟩) rfl rfl, if_pos (Or.inl rfl)]
  unfold leafV
  rw [if_neg (by simp), if_neg (by intro h; exact h.2 hx), if_neg (by intro h; exact absurd h.1 (by decide))]
  rfl
include hy in
theorem div_v1 : vAt (divT q) [x, y] 1 = some y := by
  rw [vAt_leaf (t := ⟨0, 1, 0, 0, 0⟩) rfl rfl, if_pos (Or.inl rfl)]
  unfold leafV
  rw [if_neg (by simp), if_neg (by intro h; exact h.2 hy), if_neg (by intro h; exact absurd h.1 (by decide))]
  rfl
include h1 h2 hx hy in
theorem div_e2 : evalF (divT q) [x, y] 2 = (quoW q x y, 0) := by
  have e : vAt (divT q) [x, y] 2 = some (quoW q x y) := by
    rw [vAt_op (div_wf h1 h2) (t := ⟨8, 0, 0, 1, 0⟩) rfl (s0 := 0) (s1 := 0) (s2 := -1) (s := 0) rfl]
    rw [show argV (vAt (divT q) [x, y]) 0 (Tm.a ⟨8, 0, 0, 1, 0⟩) = vAt (divT q) [x, y] 0 from rfl, show argV (vAt (divT q) [x, y]) 0 (Tm.b ⟨8, 0, 0, 1, 0⟩) = vAt (divT q) [x, y] 1 from rfl, div_v0 hx, div_v1 hy]
    rfl
  unfold evalF
  rw [show nodeAt (divT q) 2 = some ⟨8, 0, 0, 1, 0⟩ from rfl]
  dsimp only
  rw [show (2 : Int).toNat = 2 from rfl, e]
include h1 h2 hx hy in
theorem div_e3 : evalF (divT q) [x, y] 3 = (remW q x y, 0) := by
  have e : vAt (divT q) [x, y] 3 = some (remW q x y) := by
    rw [vAt_op (div_wf h1 h2) (t := ⟨9, 0, 0, 1, 0⟩) rfl (s0 := 0) (s1 := 0) (s2 := -1) (s := 0) rfl]
    rw [show argV (vAt (divT q) [x, y]) 0 (Tm.a ⟨9, 0, 0, 1, 0⟩) = vAt (divT q) [x, y] 0 from rfl, show argV (vAt (divT q) [x, y]) 0 (Tm.b ⟨9, 0, 0, 1, 0⟩) = vAt (divT q) [x, y] 1 from rfl, div_v0 hx, div_v1 hy]
    rfl
  unfold evalF
  rw [show nodeAt (divT q) 3 = some ⟨9, 0, 0, 1, 0⟩ from rfl]
  dsimp only
  rw [show (3 : Int).toNat = 3 from rfl, e]
end
theorem div_back (q a b : Int) : wrapW q (quoW q a b * wrapW q b + remW q a b) = wrapW q a := by
  unfold quoW remW
  split
  · rw [Int.zero_mul, Int.zero_add, wrapW_idem]
  · have e : wrapW q (wrapW q ((wrapW q a).tdiv (wrapW q b)) * wrapW q b + (wrapW q a).tmod (wrapW q b)) = wrapW q ((wrapW q a).tdiv (wrapW q b) * wrapW q b + (wrapW q a).tmod (wrapW q b)) := by
      rw [← wrapW_add, ← wrapW_add q ((wrapW q a).tdiv (wrapW q b) * wrapW q b)]
      rw [← wrapW_mul q (wrapW q ((wrapW q a).tdiv (wrapW q b))), wrapW_idem, wrapW_mul]
    rw [e, Int.tdiv_mul_add_tmod, wrapW_idem]
theorem tmod_sq {x y : Int} (h : y ≠ 0) : x.tmod y * x.tmod y < y * y ∧ 0 ≤ x.tmod y * x := by
  have h1 : (x.tmod y).natAbs < y.natAbs := by
    rw [Int.natAbs_tmod]
    exact Nat.mod_lt _ (by omega)
  constructor
  · have h2 : ((x.tmod y).natAbs : Int) * ((x.tmod y).natAbs : Int) < (y.natAbs : Int) * (y.natAbs : Int) := by
      have : (x.tmod y).natAbs * (x.tmod y).natAbs < y.natAbs * y.natAbs := Nat.mul_self_lt_mul_self h1
      exact_mod_cast this
    rwa [Int.natAbs_mul_self', Int.natAbs_mul_self'] at h2
  · rcases Int.le_total 0 x with hx | hx
    · exact Int.mul_nonneg (Int.tmod_nonneg y hx) hx
    · have : x.tmod y ≤ 0 := by
        have := Int.tmod_nonneg y (a := -x) (by omega)
        rw [Int.neg_tmod] at this
        omega
      exact Int.mul_nonneg_of_nonpos_of_nonpos this hx

theorem slT_div {w : World} : SlT (w.alloc (.cells #[.int .i64 0, .int .i64 0, .int .i64 0, .int .i64 0, .int .i64 0, .int .i64 0, .int .i64 1, .int .i64 0, .int .i64 0, .int .i64 0, .int .i64 8, .int .i64 0, .int .i64 0, .int .i64 1, .int .i64 0, .int .i64 9, .int .i64 0, .int .i64 0, .int .i64 1, .int .i64 0] 84)) (some ⟨w.heap.size, 0, none⟩) 4 div4 := by
  refine ⟨Nat.le_refl _, by omega, fun _ => ⟨w.heap.size, 0, rfl, fun k t hk => ?_⟩⟩
  rcases k with _ | _ | _ | _ | k
  · cases hk; exact ⟨z_cell w _ _ 0, z_cell w _ _ 1, z_cell w _ _ 2, z_cell w _ _ 3, z_cell w _ _ 4⟩
  · cases hk; exact ⟨z_cell w _ _ 5, z_cell w _ _ 6, z_cell w _ _ 7, z_cell w _ _ 8, z_cell w _ _ 9⟩
  · cases hk; exact ⟨z_cell w _ _ 10, z_cell w _ _ 11, z_cell w _ _ 12, z_cell w _ _ 13, z_cell w _ _ 14⟩
  · cases hk; exact ⟨z_cell w _ _ 15, z_cell w _ _ 16, z_cell w _ _ 17, z_cell w _ _ 18, z_cell w _ _ 19⟩
  · simp [div4] at hk

set_option maxRecDepth 100000 in
set_option maxHeartbeats 2000000 in
theorem divides_yes (q a b : Int) (w : World) (h1 : 2 ≤ q) (h2 : q ≤ 8) : Calls Try.prog 16 #[.int .i64 q, .int .i64 a, .int .i64 b] w fun e w' => e = .returned (.bool true) ∧ Below w.heap.size w w' := by
  obtain ⟨x, hx⟩ : ∃ x, wrapW q a = x := ⟨_, rfl⟩
  obtain ⟨y, hy⟩ : ∃ y, wrapW q b = y := ⟨_, rfl⟩
  obtain ⟨Q, hQ⟩ : ∃ Q, quoW q a b = Q := ⟨_, rfl⟩
  obtain ⟨R, hR⟩ : ∃ R, remW q a b = R := ⟨_, rfl⟩
  have ix : wrapW q x = x := by rw [← hx, wrapW_idem]
  have iy : wrapW q y = y := by rw [← hy, wrapW_idem]
  have hQ2 : quoW q x y = Q := by rw [← hQ]; unfold quoW; rw [hx, hy, ix, iy]
  have hR2 : remW q x y = R := by rw [← hR]; unfold remW; rw [hx, hy, ix, iy]
  have e2 := div_e2 h1 h2 ix iy
  have e3 := div_e3 h1 h2 ix iy
  rw [hQ2] at e2
  rw [hR2] at e3
  have hbk := div_back q a b
  rw [hQ, hR, hx, hy] at hbk
  have bx := wrapW_small q a
  have by' := wrapW_small q b
  rw [hx] at bx
  rw [hy] at by'
  obtain ⟨bx1, bx2⟩ := bx
  obtain ⟨by1, by2⟩ := by'
  have bQ := wrapW_small q Q
  have bR := wrapW_small q R
  rw [wrapW_of_in (by rw [← hQ]; exact quoW_any h1 h2 _ _)] at bQ
  rw [wrapW_of_in (by rw [← hR]; exact remW_any h1 h2 _ _)] at bR
  obtain ⟨bQ1, bQ2⟩ := bQ
  obtain ⟨bR1, bR2⟩ := bR
  have p1 := mul_bd (a := Q) (b := y) (k := 128) (by omega) (by omega) (by omega) (by omega)
  have p2 := mul_bd (a := R) (b := R) (k := 128) (by omega) (by omega) (by omega) (by omega)
  have p3 := mul_bd (a := y) (b := y) (k := 128) (by omega) (by omega) (by omega) (by omega)
  have p4 := mul_bd (a := R) (b := x) (k := 128) (by omega) (by omega) (by omega) (by omega)
  have hz : y = 0 → Q = 0 ∧ R = x := fun h => by
    rw [← hy] at h
    rw [← hQ, ← hR, ← hx]
    unfold quoW remW
    rw [if_pos h, if_pos h]
    exact ⟨rfl, rfl⟩
  have hnz : y ≠ 0 → R * R < y * y ∧ 0 ≤ R * x := fun h => by
    have := tmod_sq (x := x) h
    have e : R = x.tmod y := by rw [← hR2]; unfold remW; rw [iy, ix, if_neg h]
    rw [e]; exact this
  obtain ⟨P1, hP1⟩ : ∃ P1, Q * y = P1 := ⟨_, rfl⟩
  obtain ⟨P2, hP2⟩ : ∃ P2, R * R = P2 := ⟨_, rfl⟩
  obtain ⟨P3, hP3⟩ : ∃ P3, y * y = P3 := ⟨_, rfl⟩
  obtain ⟨P4, hP4⟩ : ∃ P4, R * x = P4 := ⟨_, rfl⟩
  rw [hP1] at hbk p1
  rw [hP2] at hnz p2
  rw [hP3] at hnz p3
  rw [hP4] at hnz p4
  have k1 : IntKind.i64.wrap (Q * y) = P1 := by rw [hP1, IntKind.wrap_i64]; omega
  have k2 : IntKind.i64.wrap (R * R) = P2 := by rw [hP2, IntKind.wrap_i64]; omega
  have k3 : IntKind.i64.wrap (y * y) = P3 := by rw [hP3, IntKind.wrap_i64]; omega
  have k4 : IntKind.i64.wrap (R * x) = P4 := by rw [hP4, IntKind.wrap_i64]; omega
  have k5 : IntKind.i64.wrap (P1 + R) = P1 + R := by rw [IntKind.wrap_i64]; omega
  have HX := Lib.hid hx
  have HY := Lib.hid hy
  have HQ := Lib.hid hQ
  have HR := Lib.hid hR
  have HE2 := Lib.hid e2
  have HE3 := Lib.hid e3
  have HBK := Lib.hid hbk
  clear hx hy hQ hR e2 e3 hbk ix iy hQ2 hR2 hP1 hP2 hP3 hP4 p1 p2 p3 p4
  by_cases hy0 : y = 0
  · have t1 : (y == 0) = true := by rw [hy0]; rfl
    have t2 : (Q == 0) = true := by rw [(hz hy0).1]; rfl
    have t3 : (R == x) = true := by rw [(hz hy0).2]; exact beq_self_eq_true x
    clear hz hnz hy0
    go_enter Try.func16, Try.ntmps16
    go_wp2_with (first
      | (go_at_call 76; go_must (refine (awake22 _).mono ?_; rintro e w1 ⟨rfl, hb1⟩; have HB1 := Lib.hid hb1; clear hb1))
      | (go_at_call 48; go_must (refine (bdiv_v HQ.out HR.out _).mono ?_; rintro e w' ⟨rfl, rfl⟩))
      | (go_at_call 25; go_must (refine (wrap_v (by first | exact HX.out | exact HY.out | exact HBK.out) _).mono ?_; rintro e w' ⟨rfl, rfl⟩))
      | (go_at_call 77; go_must (refine (build77_yes q div4 (some ⟨w1.heap.size, 0, none⟩) 4 (w1.alloc (.cells #[.int .i64 0, .int .i64 0, .int .i64 0, .int .i64 0, .int .i64 0, .int .i64 0, .int .i64 1, .int .i64 0, .int .i64 0, .int .i64 0, .int .i64 8, .int .i64 0, .int .i64 0, .int .i64 1, .int .i64 0, .int .i64 9, .int .i64 0, .int .i64 0, .int .i64 1, .int .i64 0] 84)) h1 h2 slT_div).mono ?_; rintro e w2 ⟨p, m, A, c, rfl, ht, hb2⟩; rw [build_div] at ht; have HT2 := Lib.hid ht; have HB2 : Hid (Below w.heap.size w w2) := HB1.out.trans ((below_of1 hb2).mono HB1.out.size); clear ht hb2))
      | (go_at_call 58; have _t := HT3; go_must (refine (eval_any (inp := [x, y]) (HT3.out.below (below_alloc w3 (.cells #[.int .i64 x, .int .i64 y] 3))) (div_wf h1 h2) (sl_new (Value.int .i64) 3 w3 _ [x, y] (by simp)) 3).mono ?_; rw [HE3.out]; rintro e w4 ⟨rfl, hb⟩; have HB4 : Hid (Below w.heap.size w w4) := HB3.out.trans ((below_of1 hb).mono HB3.out.size); clear hb))
      | (go_at_call 58; go_must (refine (eval_any (inp := [x, y]) (HT2.out.below (below_alloc w2 (.cells #[.int .i64 x, .int .i64 y] 3))) (div_wf h1 h2) (sl_new (Value.int .i64) 3 w2 _ [x, y] (by simp)) 2).mono ?_; rw [HE2.out]; rintro e w3 ⟨rfl, hb⟩; have hb' := below_of1 hb; have HT3 := Lib.hid (HT2.out.below hb'); have HB3 : Hid (Below w.heap.size w w3) := HB2.out.trans (hb'.mono HB2.out.size); clear hb hb'))
      | (go_at_call 23; go_must (refine (isWidth_yes _ _ h1 h2).mono ?_; rintro e w2 ⟨rfl, rfl⟩)))
    go_ret
    exact ⟨rfl, HB4.out⟩
  · obtain ⟨g1, g2⟩ := hnz hy0
    have t1 : (y == 0) = false := beq_eq_false_iff_ne.2 hy0
    have t2 : decide (P2 < P3) = true := decide_eq_true g1
    have t3 : decide (P4 ≥ 0) = true := decide_eq_true g2
    clear hz hnz hy0
    go_enter Try.func16, Try.ntmps16
    go_wp2_with (first
      | (go_at_call 76; go_must (refine (awake22 _).mono ?_; rintro e w1 ⟨rfl, hb1⟩; have HB1 := Lib.hid hb1; clear hb1))
      | (go_at_call 48; go_must (refine (bdiv_v HQ.out HR.out _).mono ?_; rintro e w' ⟨rfl, rfl⟩))
      | (go_at_call 25; go_must (refine (wrap_v (by first | exact HX.out | exact HY.out | exact HBK.out) _).mono ?_; rintro e w' ⟨rfl, rfl⟩))
      | (go_at_call 77; go_must (refine (build77_yes q div4 (some ⟨w1.heap.size, 0, none⟩) 4 (w1.alloc (.cells #[.int .i64 0, .int .i64 0, .int .i64 0, .int .i64 0, .int .i64 0, .int .i64 0, .int .i64 1, .int .i64 0, .int .i64 0, .int .i64 0, .int .i64 8, .int .i64 0, .int .i64 0, .int .i64 1, .int .i64 0, .int .i64 9, .int .i64 0, .int .i64 0, .int .i64 1, .int .i64 0] 84)) h1 h2 slT_div).mono ?_; rintro e w2 ⟨p, m, A, c, rfl, ht, hb2⟩; rw [build_div] at ht; have HT2 := Lib.hid ht; have HB2 : Hid (Below w.heap.size w w2) := HB1.out.trans ((below_of1 hb2).mono HB1.out.size); clear ht hb2))
      | (go_at_call 58; have _t := HT3; go_must (refine (eval_any (inp := [x, y]) (HT3.out.below (below_alloc w3 (.cells #[.int .i64 x, .int .i64 y] 3))) (div_wf h1 h2) (sl_new (Value.int .i64) 3 w3 _ [x, y] (by simp)) 3).mono ?_; rw [HE3.out]; rintro e w4 ⟨rfl, hb⟩; have HB4 : Hid (Below w.heap.size w w4) := HB3.out.trans ((below_of1 hb).mono HB3.out.size); clear hb))
      | (go_at_call 58; go_must (refine (eval_any (inp := [x, y]) (HT2.out.below (below_alloc w2 (.cells #[.int .i64 x, .int .i64 y] 3))) (div_wf h1 h2) (sl_new (Value.int .i64) 3 w2 _ [x, y] (by simp)) 2).mono ?_; rw [HE2.out]; rintro e w3 ⟨rfl, hb⟩; have hb' := below_of1 hb; have HT3 := Lib.hid (HT2.out.below hb'); have HB3 : Hid (Below w.heap.size w w3) := HB2.out.trans (hb'.mono HB2.out.size); clear hb hb'))
      | (go_at_call 23; go_must (refine (isWidth_yes _ _ h1 h2).mono ?_; rintro e w2 ⟨rfl, rfl⟩)))
    go_ret
    exact ⟨rfl, HB4.out⟩
theorem bdiv_out {q : Int} (a b : Int) (h : q < 2 ∨ 8 < q) : quoW q a b = 0 ∧ remW q a b = 0 := by
  unfold quoW remW
  simp [wr_out _ h]
theorem divides_no (q a b : Int) (w : World) (h : q < 2 ∨ 8 < q) : Calls Try.prog 16 #[.int .i64 q, .int .i64 a, .int .i64 b] w fun e w' => e = .returned (.bool true) ∧ Below w.heap.size w w' := by
  have HQ := Lib.hid (bdiv_out (q := q) a b h).1
  have HR := Lib.hid (bdiv_out (q := q) a b h).2
  go_enter Try.func16, Try.ntmps16
  go_wp2_with (first
    | (go_at_call 76; go_must (refine (awake22 _).mono ?_; rintro e w1 ⟨rfl, hb1⟩; have HB1 := Lib.hid hb1; clear hb1))
    | (go_at_call 48; go_must (refine (bdiv_v HQ.out HR.out _).mono ?_; rintro e w' ⟨rfl, rfl⟩))
    | (go_at_call 23; go_must (refine (isWidth_no _ _ h).mono ?_; rintro e w2 ⟨rfl, rfl⟩)))
  go_ret
  exact ⟨rfl, HB1.out⟩
theorem divides_walk (q a b : Int) (w : World) : Calls Try.prog 16 #[.int .i64 q, .int .i64 a, .int .i64 b] w fun e w' => e = .returned (.bool true) ∧ Below w.heap.size w w' := by
  by_cases h : q < 2 ∨ 8 < q
  · exact divides_no q a b w h
  · exact divides_yes q a b w (by omega) (by omega)
end Go.Proofs.Ytgmcajojigedaaa
