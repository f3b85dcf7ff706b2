/- The walk of the table's fits. -/
import Derived.Test.YtgmcajojigedaaaTa
import Derived.Test.YtgmcajojigedaaaHd
set_option linter.unusedSimpArgs false
set_option linter.unusedVariables false
namespace Go.Proofs.Ytgmcajojigedaaa
open Go.RowKit Go.Maps

theorem box84 {w w1 : World} {t : Tm} (hb : Below (w.alloc (.cells #[.int .i64 t.op, .int .i64 t.v, .int .i64 t.a, .int .i64 t.b, .int .i64 t.c] 84)).heap.size (w.alloc (.cells #[.int .i64 t.op, .int .i64 t.v, .int .i64 t.a, .int .i64 t.b, .int .i64 t.c] 84)) w1) :
    Below w.heap.size w w1 ∧ w.heap.size < w1.heap.size ∧ w1.cell? ⟨w.heap.size, 0, none⟩ = some (.int .i64 t.op) ∧ w1.cell? ⟨w.heap.size, 1, none⟩ = some (.int .i64 t.v) ∧ w1.cell? ⟨w.heap.size, 2, none⟩ = some (.int .i64 t.a) ∧ w1.cell? ⟨w.heap.size, 3, none⟩ = some (.int .i64 t.b) ∧ w1.cell? ⟨w.heap.size, 4, none⟩ = some (.int .i64 t.c) := by
  have hc : ∀ j u, (#[.int .i64 t.op, .int .i64 t.v, .int .i64 t.a, .int .i64 t.b, .int .i64 t.c] : Array Value)[j]? = some u → w1.cell? ⟨w.heap.size, j, none⟩ = some u := fun j u hu => by
    have := z_cell w #[.int .i64 t.op, .int .i64 t.v, .int .i64 t.a, .int .i64 t.b, .int .i64 t.c] 84 j
    rw [hu] at this
    exact (hb.cell (cell_lt this)).trans this
  exact ⟨below_of1 hb, cell_lt (hc 0 _ rfl), hc 0 _ rfl, hc 1 _ rfl, hc 2 _ rfl, hc 3 _ rfl, hc 4 _ rfl⟩
def nodeAt (T : TS) (x : Int) : Option Tm := if 0 ≤ x then T.nodes[x.toNat]? else none
def argOk (T : TS) (s x : Int) : Bool := if s = -1 then decide (x = 0) else match nodeAt T x with
  | some t => decide (sortF t.op = s)
  | none => false
def leafOk (T : TS) (t : Tm) : Bool := decide (t.a = 0 ∧ t.b = 0 ∧ t.c = 0) && (if t.op = 0 ∨ t.op = 1 then decide (0 ≤ t.v ∧ t.v < 24) else if t.op = 2 then decide (wrapW T.width t.v = t.v) else if t.op = 3 then decide (t.v = 0 ∨ t.v = 1) else false)
def fitsT (T : TS) (t : Tm) : Bool := match formF t.op with
  | some ((s0, s1, s2), _) => argOk T s0 t.a && argOk T s1 t.b && argOk T s2 t.c && decide (t.v = 0)
  | none => leafOk T t
theorem nodeAt_none {T : TS} {x : Int} : nodeAt T x = none ↔ hasB T x = false := by
  unfold nodeAt hasB
  split
  · rw [List.getElem?_eq_none_iff, decide_eq_false_iff_not]; omega
  · rw [decide_eq_false_iff_not]; simp; omega
theorem nodeAt_some {T : TS} {x : Int} {t : Tm} (h : nodeAt T x = some t) : ∃ k : Nat, x = k ∧ T.nodes[k]? = some t := by
  unfold nodeAt at h
  split at h
  · exact ⟨x.toNat, by omega, h⟩
  · cases h

theorem wrap_v {a n v : Int} (h : wrapW a n = v) (w : World) : Calls Try.prog 25 #[.int .i64 a, .int .i64 n] w fun e w' => e = .returned (.int .i64 v) ∧ w = w' := by
  subst h; exact wrap_any a n w
section
variable {B0 p m : Nat} {A : Option Addr} {c' : Nat} {T : TS} {w : World}
def FitRet (w : World) (r : Bool) (e : Ending) (w' : World) : Prop := e = .returned (.bool r) ∧ Below w.heap.size w w'
set_option maxRecDepth 100000 in
set_option maxHeartbeats 1000000 in
theorem fits_args (hb : Tb B0 w p m A c' T) (op v a b c : Int) (hf : formF op = none) (hz : ¬ (a = 0 ∧ b = 0 ∧ c = 0)) :
    Calls Try.prog 135 #[.pointer (some ⟨p, 0, none⟩), tagg ⟨op, v, a, b, c⟩] w (FitRet w (fitsT T ⟨op, v, a, b, c⟩)) := by
  have hres : fitsT T ⟨op, v, a, b, c⟩ = false := by unfold fitsT leafOk; dsimp only; rw [hf]; dsimp only; rw [decide_eq_false hz]; rfl
  rw [hres]
  have HF := Lib.hid hf
  have hne : ∀ w, (binOp .neq 82 (.agg #[.int .i64 a, .int .i64 b, .int .i64 c]) (.agg #[.int .i64 0, .int .i64 0, .int .i64 0])).run Try.prog w = .ok (.bool true) w := fun w => by rw [run_neq82, decide_eq_false hz]; rfl
  clear hf hz
  have HB := Lib.hid hb
  clear hb hres
  unfold tagg FitRet
  go_enter Try.func135, Try.ntmps135
  go_wp2_with (go_at_call 160; go_must (refine (forms_any op _).mono ?_; rintro e w1 ⟨rfl, hb⟩; rw [HF.out]; dsimp only [formV]; obtain ⟨hb1, hz1, q0, q1, q2, q3, q4⟩ := box84 (t := ⟨op, v, a, b, c⟩) hb; clear hb))
  go_ret
  exact ⟨rfl, hb1.trans ((below_alloc _ _).mono hb1.size)⟩
set_option maxRecDepth 100000 in
set_option maxHeartbeats 1000000 in
theorem fits_0a (hb : Tb B0 w p m A c' T) (op v a b c : Int) (hz : a = 0 ∧ b = 0 ∧ c = 0) (hv : v < 0) :
    Calls Try.prog 135 #[.pointer (some ⟨p, 0, none⟩), tagg ⟨0, v, a, b, c⟩] w (FitRet w (fitsT T ⟨0, v, a, b, c⟩)) := by
  have hres : fitsT T ⟨0, v, a, b, c⟩ = false := by have hf : formF 0 = none := rfl; unfold fitsT leafOk; dsimp only; rw [hf]; dsimp only; rw [decide_eq_true hz]; simp; omega
  rw [hres]
  have hf : formF 0 = none := rfl
  have HF := Lib.hid hf
  have hne : ∀ w, (binOp .neq 82 (.agg #[.int .i64 a, .int .i64 b, .int .i64 c]) (.agg #[.int .i64 0, .int .i64 0, .int .i64 0])).run Try.prog w = .ok (.bool false) w := fun w => by rw [run_neq82, decide_eq_true hz]; rfl
  have d1 : decide (0 ≤ v) = false := decide_eq_false (by omega)
  clear hf hz
  have HB := Lib.hid hb
  clear hb hres
  unfold tagg FitRet
  go_enter Try.func135, Try.ntmps135
  go_wp2_with (go_at_call 160; go_must (refine (forms_any 0 _).mono ?_; rintro e w1 ⟨rfl, hb⟩; rw [HF.out]; dsimp only [formV]; obtain ⟨hb1, hz1, q0, q1, q2, q3, q4⟩ := box84 (t := ⟨0, v, a, b, c⟩) hb; clear hb))
  go_ret
  exact ⟨rfl, hb1.trans ((below_alloc _ _).mono hb1.size)⟩
set_option maxRecDepth 100000 in
set_option maxHeartbeats 1000000 in
theorem fits_0b (hb : Tb B0 w p m A c' T) (op v a b c : Int) (hz : a = 0 ∧ b = 0 ∧ c = 0) (hv : 24 ≤ v) :
    Calls Try.prog 135 #[.pointer (some ⟨p, 0, none⟩), tagg ⟨0, v, a, b, c⟩] w (FitRet w (fitsT T ⟨0, v, a, b, c⟩)) := by
  have hres : fitsT T ⟨0, v, a, b, c⟩ = false := by have hf : formF 0 = none := rfl; unfold fitsT leafOk; dsimp only; rw [hf]; dsimp only; rw [decide_eq_true hz]; simp; omega
  rw [hres]
  have hf : formF 0 = none := rfl
  have HF := Lib.hid hf
  have hne : ∀ w, (binOp .neq 82 (.agg #[.int .i64 a, .int .i64 b, .int .i64 c]) (.agg #[.int .i64 0, .int .i64 0, .int .i64 0])).run Try.prog w = .ok (.bool false) w := fun w => by rw [run_neq82, decide_eq_true hz]; rfl
  have d1 : decide (0 ≤ v) = true := decide_eq_true (by omega)
  have d2 : decide (v < 24) = false := decide_eq_false (by omega)
  clear hf hz
  have HB := Lib.hid hb
  clear hb hres
  unfold tagg FitRet
  go_enter Try.func135, Try.ntmps135
  go_wp2_with (go_at_call 160; go_must (refine (forms_any 0 _).mono ?_; rintro e w1 ⟨rfl, hb⟩; rw [HF.out]; dsimp only [formV]; obtain ⟨hb1, hz1, q0, q1, q2, q3, q4⟩ := box84 (t := ⟨0, v, a, b, c⟩) hb; clear hb))
  go_ret
  exact ⟨rfl, hb1.trans ((below_alloc _ _).mono hb1.size)⟩
set_option maxRecDepth 100000 in
set_option maxHeartbeats 1000000 in
theorem fits_0c (hb : Tb B0 w p m A c' T) (op v a b c : Int) (hz : a = 0 ∧ b = 0 ∧ c = 0) (hv : 0 ≤ v) (hw : v < 24) :
    Calls Try.prog 135 #[.pointer (some ⟨p, 0, none⟩), tagg ⟨0, v, a, b, c⟩] w (FitRet w (fitsT T ⟨0, v, a, b, c⟩)) := by
  have hres : fitsT T ⟨0, v, a, b, c⟩ = true := by have hf : formF 0 = none := rfl; unfold fitsT leafOk; dsimp only; rw [hf]; dsimp only; rw [decide_eq_true hz]; simp; omega
  rw [hres]
  have hf : formF 0 = none := rfl
  have HF := Lib.hid hf
  have hne : ∀ w, (binOp .neq 82 (.agg #[.int .i64 a, .int .i64 b, .int .i64 c]) (.agg #[.int .i64 0, .int .i64 0, .int .i64 0])).run Try.prog w = .ok (.bool false) w := fun w => by rw [run_neq82, decide_eq_true hz]; rfl
  have d1 : decide (0 ≤ v) = true := decide_eq_true (by omega)
  have d2 : decide (v < 24) = true := decide_eq_true (by omega)
  clear hf hz
  have HB := Lib.hid hb
  clear hb hres
  unfold tagg FitRet
  go_enter Try.func135, Try.ntmps135
  go_wp2_with (go_at_call 160; go_must (refine (forms_any 0 _).mono ?_; rintro e w1 ⟨rfl, hb⟩; rw [HF.out]; dsimp only [formV]; obtain ⟨hb1, hz1, q0, q1, q2, q3, q4⟩ := box84 (t := ⟨0, v, a, b, c⟩) hb; clear hb))
  go_ret
  exact ⟨rfl, hb1.trans ((below_alloc _ _).mono hb1.size)⟩
set_option maxRecDepth 100000 in
set_option maxHeartbeats 1000000 in
theorem fits_1a (hb : Tb B0 w p m A c' T) (op v a b c : Int) (hz : a = 0 ∧ b = 0 ∧ c = 0) (hv : v < 0) :
    Calls Try.prog 135 #[.pointer (some ⟨p, 0, none⟩), tagg ⟨1, v, a, b, c⟩] w (FitRet w (fitsT T ⟨1, v, a, b, c⟩)) := by
  have hres : fitsT T ⟨1, v, a, b, c⟩ = false := by have hf : formF 1 = none := rfl; unfold fitsT leafOk; dsimp only; rw [hf]; dsimp only; rw [decide_eq_true hz]; simp; omega
  rw [hres]
  have hf : formF 1 = none := rfl
  have HF := Lib.hid hf
  have hne : ∀ w, (binOp .neq 82 (.agg #[.int .i64 a, .int .i64 b, .int .i64 c]) (.agg #[.int .i64 0, .int .i64 0, .int .i64 0])).run Try.prog w = .ok (.bool false) w := fun w => by rw [run_neq82, decide_eq_true hz]; rfl
  have d1 : decide (0 ≤ v) = false := decide_eq_false (by omega)
  clear hf hz
  have HB := Lib.hid hb
  clear hb hres
  unfold tagg FitRet
  go_enter Try.func135, Try.ntmps135
  go_wp2_with (go_at_call 160; go_must (refine (forms_any 1 _).mono ?_; rintro e w1 ⟨rfl, hb⟩; rw [HF.out]; dsimp only [formV]; obtain ⟨hb1, hz1, q0, q1, q2, q3, q4⟩ := box84 (t := ⟨1, v, a, b, c⟩) hb; clear hb))
  go_ret
  exact ⟨rfl, hb1.trans ((below_alloc _ _).mono hb1.size)⟩
set_option maxRecDepth 100000 in
set_option maxHeartbeats 1000000 in
theorem fits_1b (hb : Tb B0 w p m A c' T) (op v a b c : Int) (hz : a = 0 ∧ b = 0 ∧ c = 0) (hv : 24 ≤ v) :
    Calls Try.prog 135 #[.pointer (some ⟨p, 0, none⟩), tagg ⟨1, v, a, b, c⟩] w (FitRet w (fitsT T ⟨1, v, a, b, c⟩)) := by
  have hres : fitsT T ⟨1, v, a, b, c⟩ = false := by have hf : formF 1 = none := rfl; unfold fitsT leafOk; dsimp only; rw [hf]; dsimp only; rw [decide_eq_true hz]; simp; omega
  rw [hres]
  have hf : formF 1 = none := rfl
  have HF := Lib.hid hf
  have hne : ∀ w, (binOp .neq 82 (.agg #[.int .i64 a, .int .i64 b, .int .i64 c]) (.agg #[.int .i64 0, .int .i64 0, .int .i64 0])).run Try.prog w = .ok (.bool false) w := fun w => by rw [run_neq82, decide_eq_true hz]; rfl
  have d1 : decide (0 ≤ v) = true := decide_eq_true (by omega)
  have d2 : decide (v < 24) = false := decide_eq_false (by omega)
  clear hf hz
  have HB := Lib.hid hb
  clear hb hres
  unfold tagg FitRet
  go_enter Try.func135, Try.ntmps135
  go_wp2_with (go_at_call 160; go_must (refine (forms_any 1 _).mono ?_; rintro e w1 ⟨rfl, hb⟩; rw [HF.out]; dsimp only [formV]; obtain ⟨hb1, hz1, q0, q1, q2, q3, q4⟩ := box84 (t := ⟨1, v, a, b, c⟩) hb; clear hb))
  go_ret
  exact ⟨rfl, hb1.trans ((below_alloc _ _).mono hb1.size)⟩
set_option maxRecDepth 100000 in
set_option maxHeartbeats 1000000 in
theorem fits_1c (hb : Tb B0 w p m A c' T) (op v a b c : Int) (hz : a = 0 ∧ b = 0 ∧ c = 0) (hv : 0 ≤ v) (hw : v < 24) :
    Calls Try.prog 135 #[.pointer (some ⟨p, 0, none⟩), tagg ⟨1, v, a, b, c⟩] w (FitRet w (fitsT T ⟨1, v, a, b, c⟩)) := by
  have hres : fitsT T ⟨1, v, a, b, c⟩ = true := by have hf : formF 1 = none := rfl; unfold fitsT leafOk; dsimp only; rw [hf]; dsimp only; rw [decide_eq_true hz]; simp; omega
  rw [hres]
  have hf : formF 1 = none := rfl
  have HF := Lib.hid hf
  have hne : ∀ w, (binOp .neq 82 (.agg #[.int .i64 a, .int .i64 b, .int .i64 c]) (.agg #[.int .i64 0, .int .i64 0, .int .i64 0])).run Try.prog w = .ok (.bool false) w := fun w => by rw [run_neq82, decide_eq_true hz]; rfl
  have d1 : decide (0 ≤ v) = true := decide_eq_true (by omega)
  have d2 : decide (v < 24) = true := decide_eq_true (by omega)
  clear hf hz
  have HB := Lib.hid hb
  clear hb hres
  unfold tagg FitRet
  go_enter Try.func135, Try.ntmps135
  go_wp2_with (go_at_call 160; go_must (refine (forms_any 1 _).mono ?_; rintro e w1 ⟨rfl, hb⟩; rw [HF.out]; dsimp only [formV]; obtain ⟨hb1, hz1, q0, q1, q2, q3, q4⟩ := box84 (t := ⟨1, v, a, b, c⟩) hb; clear hb))
  go_ret
  exact ⟨rfl, hb1.trans ((below_alloc _ _).mono hb1.size)⟩
set_option maxRecDepth 100000 in
set_option maxHeartbeats 1000000 in
theorem fits_3a (hb : Tb B0 w p m A c' T) (op v a b c : Int) (hz : a = 0 ∧ b = 0 ∧ c = 0) (hv : v = 0) :
    Calls Try.prog 135 #[.pointer (some ⟨p, 0, none⟩), tagg ⟨3, v, a, b, c⟩] w (FitRet w (fitsT T ⟨3, v, a, b, c⟩)) := by
  have hres : fitsT T ⟨3, v, a, b, c⟩ = true := by have hf : formF 3 = none := rfl; unfold fitsT leafOk; dsimp only; rw [hf]; dsimp only; rw [decide_eq_true hz]; simp; omega
  rw [hres]
  have hf : formF 3 = none := rfl
  have HF := Lib.hid hf
  have hne : ∀ w, (binOp .neq 82 (.agg #[.int .i64 a, .int .i64 b, .int .i64 c]) (.agg #[.int .i64 0, .int .i64 0, .int .i64 0])).run Try.prog w = .ok (.bool false) w := fun w => by rw [run_neq82, decide_eq_true hz]; rfl
  have d1 : (v == 0) = true := beq_iff_eq.2 hv
  clear hv
  clear hf hz
  have HB := Lib.hid hb
  clear hb hres
  unfold tagg FitRet
  go_enter Try.func135, Try.ntmps135
  go_wp2_with (go_at_call 160; go_must (refine (forms_any 3 _).mono ?_; rintro e w1 ⟨rfl, hb⟩; rw [HF.out]; dsimp only [formV]; obtain ⟨hb1, hz1, q0, q1, q2, q3, q4⟩ := box84 (t := ⟨3, v, a, b, c⟩) hb; clear hb))
  go_ret
  exact ⟨rfl, hb1.trans ((below_alloc _ _).mono hb1.size)⟩
set_option maxRecDepth 100000 in
set_option maxHeartbeats 1000000 in
theorem fits_3b (hb : Tb B0 w p m A c' T) (op v a b c : Int) (hz : a = 0 ∧ b = 0 ∧ c = 0) (hv : v = 1) :
    Calls Try.prog 135 #[.pointer (some ⟨p, 0, none⟩), tagg ⟨3, v, a, b, c⟩] w (FitRet w (fitsT T ⟨3, v, a, b, c⟩)) := by
  have hres : fitsT T ⟨3, v, a, b, c⟩ = true := by have hf : formF 3 = none := rfl; unfold fitsT leafOk; dsimp only; rw [hf]; dsimp only; rw [decide_eq_true hz]; simp; omega
  rw [hres]
  have hf : formF 3 = none := rfl
  have HF := Lib.hid hf
  have hne : ∀ w, (binOp .neq 82 (.agg #[.int .i64 a, .int .i64 b, .int .i64 c]) (.agg #[.int .i64 0, .int .i64 0, .int .i64 0])).run Try.prog w = .ok (.bool false) w := fun w => by rw [run_neq82, decide_eq_true hz]; rfl
  have d1 : (v == 0) = false := beq_eq_false_iff_ne.2 (by omega)
  have d2 : (v == 1) = true := beq_iff_eq.2 hv
  clear hv
  clear hf hz
  have HB := Lib.hid hb
  clear hb hres
  unfold tagg FitRet
  go_enter Try.func135, Try.ntmps135
  go_wp2_with (go_at_call 160; go_must (refine (forms_any 3 _).mono ?_; rintro e w1 ⟨rfl, hb⟩; rw [HF.out]; dsimp only [formV]; obtain ⟨hb1, hz1, q0, q1, q2, q3, q4⟩ := box84 (t := ⟨3, v, a, b, c⟩) hb; clear hb))
  go_ret
  exact ⟨rfl, hb1.trans ((below_alloc _ _).mono hb1.size)⟩
set_option maxRecDepth 100000 in
set_option maxHeartbeats 1000000 in
theorem fits_3c (hb : Tb B0 w p m A c' T) (op v a b c : Int) (hz : a = 0 ∧ b = 0 ∧ c = 0) (hv : ¬ (v = 0 ∨ v = 1)) :
    Calls Try.prog 135 #[.pointer (some ⟨p, 0, none⟩), tagg ⟨3, v, a, b, c⟩] w (FitRet w (fitsT T ⟨3, v, a, b, c⟩)) := by
  have hres : fitsT T ⟨3, v, a, b, c⟩ = false := by have hf : formF 3 = none := rfl; unfold fitsT leafOk; dsimp only; rw [hf]; dsimp only; rw [decide_eq_true hz]; simp; omega
  rw [hres]
  have hf : formF 3 = none := rfl
  have HF := Lib.hid hf
  have hne : ∀ w, (binOp .neq 82 (.agg #[.int .i64 a, .int .i64 b, .int .i64 c]) (.agg #[.int .i64 0, .int .i64 0, .int .i64 0])).run Try.prog w = .ok (.bool false) w := fun w => by rw [run_neq82, decide_eq_true hz]; rfl
  have d1 : (v == 0) = false := beq_eq_false_iff_ne.2 (by omega)
  have d2 : (v == 1) = false := beq_eq_false_iff_ne.2 (by omega)
  clear hf hz
  have HB := Lib.hid hb
  clear hb hres
  unfold tagg FitRet
  go_enter Try.func135, Try.ntmps135
  go_wp2_with (go_at_call 160; go_must (refine (forms_any 3 _).mono ?_; rintro e w1 ⟨rfl, hb⟩; rw [HF.out]; dsimp only [formV]; obtain ⟨hb1, hz1, q0, q1, q2, q3, q4⟩ := box84 (t := ⟨3, v, a, b, c⟩) hb; clear hb))
  go_ret
  exact ⟨rfl, hb1.trans ((below_alloc _ _).mono hb1.size)⟩
set_option maxRecDepth 100000 in
set_option maxHeartbeats 1000000 in
theorem fits_2 (hb : Tb B0 w p m A c' T) (op v a b c : Int) (hz : a = 0 ∧ b = 0 ∧ c = 0)  :
    Calls Try.prog 135 #[.pointer (some ⟨p, 0, none⟩), tagg ⟨2, v, a, b, c⟩] w (FitRet w (fitsT T ⟨2, v, a, b, c⟩)) := by
  have hres : fitsT T ⟨2, v, a, b, c⟩ = decide (wrapW T.width v = v) := by have hf : formF 2 = none := rfl; unfold fitsT leafOk; dsimp only; rw [hf]; dsimp only; rw [decide_eq_true hz]; simp
  rw [hres]
  have hf : formF 2 = none := rfl
  have HF := Lib.hid hf
  have hne : ∀ w, (binOp .neq 82 (.agg #[.int .i64 a, .int .i64 b, .int .i64 c]) (.agg #[.int .i64 0, .int .i64 0, .int .i64 0])).run Try.prog w = .ok (.bool false) w := fun w => by rw [run_neq82, decide_eq_true hz]; rfl
  have hb1' := hb.cell0
  obtain ⟨V, hV⟩ : ∃ V, wrapW T.width v = V := ⟨_, rfl⟩
  have HV := Lib.hid hV
  obtain ⟨r, hr⟩ : ∃ r, decide (wrapW T.width v = v) = r := ⟨_, rfl⟩
  rw [hr]
  rw [hV] at hr
  have hr2 : (V == v) = r := by rw [← hr]; by_cases h : V = v <;> simp [h]
  clear hV hr hb1'
  clear hf hz
  have HB := Lib.hid hb
  clear hb hres
  unfold tagg FitRet
  go_enter Try.func135, Try.ntmps135
  go_wp2_with (go_at_call 160; go_must (refine (forms_any 2 _).mono ?_; rintro e w1 ⟨rfl, hb⟩; rw [HF.out]; dsimp only [formV]; obtain ⟨hb1, hz1, q0, q1, q2, q3, q4⟩ := box84 (t := ⟨2, v, a, b, c⟩) hb; clear hb))
  have c0 := ((HB.out.below hb1).below (below_alloc w1 (.cells #[.int .i64 0, .int .i64 0, .int .i64 0, .int .i64 0] 162))).cell0
  go_quiet ((go_at_call 25; exact quiet_left (wrap_v HV.out _)))
  go_wp2
  go_ret
  exact ⟨rfl, below_drewN (hb1.trans ((below_alloc _ _).mono hb1.size)) _⟩
set_option maxRecDepth 100000 in
set_option maxHeartbeats 1000000 in
theorem fits_odd (hb : Tb B0 w p m A c' T) (op v a b c : Int) (hf : formF op = none) (hz : a = 0 ∧ b = 0 ∧ c = 0) (h0 : op ≠ 0) (h1 : op ≠ 1) (h2 : op ≠ 2) (h3 : op ≠ 3) :
    Calls Try.prog 135 #[.pointer (some ⟨p, 0, none⟩), tagg ⟨op, v, a, b, c⟩] w (FitRet w (fitsT T ⟨op, v, a, b, c⟩)) := by
  have hres : fitsT T ⟨op, v, a, b, c⟩ = false := by unfold fitsT leafOk; dsimp only; rw [hf]; dsimp only; rw [if_neg (by omega), if_neg h2, if_neg h3]; simp
  rw [hres]
  have HF := Lib.hid hf
  have hne : ∀ w, (binOp .neq 82 (.agg #[.int .i64 a, .int .i64 b, .int .i64 c]) (.agg #[.int .i64 0, .int .i64 0, .int .i64 0])).run Try.prog w = .ok (.bool false) w := fun w => by rw [run_neq82, decide_eq_true hz]; rfl
  have e0 : (op == 0) = false := beq_eq_false_iff_ne.2 h0
  have e1 : (op == 1) = false := beq_eq_false_iff_ne.2 h1
  have e2 : (op == 2) = false := beq_eq_false_iff_ne.2 h2
  have e3 : (op == 3) = false := beq_eq_false_iff_ne.2 h3
  clear hf hz h0 h1 h2 h3
  have HB := Lib.hid hb
  clear hb hres
  unfold tagg FitRet
  go_enter Try.func135, Try.ntmps135
  go_wp2_with (go_at_call 160; go_must (refine (forms_any op _).mono ?_; rintro e w1 ⟨rfl, hb⟩; rw [HF.out]; dsimp only [formV]; obtain ⟨hb1, hz1, q0, q1, q2, q3, q4⟩ := box84 (t := ⟨op, v, a, b, c⟩) hb; clear hb))
  go_ret
  exact ⟨rfl, hb1.trans ((below_alloc _ _).mono hb1.size)⟩
end
end Go.Proofs.Ytgmcajojigedaaa
