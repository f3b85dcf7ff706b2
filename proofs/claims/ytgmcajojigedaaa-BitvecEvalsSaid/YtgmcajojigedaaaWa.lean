/- The reference of chapter 22: Result, Needs (printed by genwa.py); right. -/
import Derived.Test.YtgmcajojigedaaaVa
set_option linter.unusedSimpArgs false
set_option linter.unusedVariables false
namespace Go.Proofs.Ytgmcajojigedaaa
open Go.RowKit

def resF (op : Int) : Int := if 0 ≤ op ∧ op ≤ 17 then sortF op else -1
def needL (s0 s1 s2 : Int) : List Int := if s0 = -1 then [] else if s1 = -1 then [s0] else if s2 = -1 then [s0, s1] else [s0, s1, s2]
def needsF (op : Int) : List Int := match formF op with
  | some ((s0, s1, s2), _) => needL s0 s1 s2
  | none => []
def NeedRet (w : World) (op : Int) (e : Ending) (w' : World) : Prop := ∃ A c, e = .returned (.slice A (needsF op).length c) ∧ SlI w' w'.heap.size A c (needsF op) ∧ Below w.heap.size w w'
theorem need_new (w : World) (xs : List Int) (h : xs.length ≤ 100) : SlI (w.alloc (.cells (xs.map (Value.int .i64)).toArray 3)) (w.alloc (.cells (xs.map (Value.int .i64)).toArray 3)).heap.size (some ⟨w.heap.size, 0, none⟩) xs.length xs :=
  sl_new (Value.int .i64) 3 w _ xs (by omega)

theorem result_0 (w : World) : Calls Try.prog 75 #[.int .i64 0] w fun e w' => e = .returned (.int .i64 (resF 0)) ∧ w = w' := by
  go_enter Try.func75, Try.ntmps75
  go_wp2
  go_ret
  exact ⟨ret_i (by decide), rfl⟩

theorem result_1 (w : World) : Calls Try.prog 75 #[.int .i64 1] w fun e w' => e = .returned (.int .i64 (resF 1)) ∧ w = w' := by
  go_enter Try.func75, Try.ntmps75
  go_wp2
  go_ret
  exact ⟨ret_i (by decide), rfl⟩

theorem result_2 (w : World) : Calls Try.prog 75 #[.int .i64 2] w fun e w' => e = .returned (.int .i64 (resF 2)) ∧ w = w' := by
  go_enter Try.func75, Try.ntmps75
  go_wp2
  go_ret
  exact ⟨ret_i (by decide), rfl⟩

theorem result_3 (w : World) : Calls Try.prog 75 #[.int .i64 3] w fun e w' => e = .returned (.int .i64 (resF 3)) ∧ w = w' := by
  go_enter Try.func75, Try.ntmps75
  go_wp2
  go_ret
  exact ⟨ret_i (by decide), rfl⟩

theorem result_4 (w : World) : Calls Try.prog 75 #[.int .i64 4] w fun e w' => e = .returned (.int .i64 (resF 4)) ∧ w = w' := by
  go_enter Try.func75, Try.ntmps75
  go_wp2
  go_ret
  exact ⟨ret_i (by decide), rfl⟩

theorem result_5 (w : World) : Calls Try.prog 75 #[.int .i64 5] w fun e w' => e = .returned (.int .i64 (resF 5)) ∧ w = w' := by
  go_enter Try.func75, Try.ntmps75
  go_wp2
  go_ret
  exact ⟨ret_i (by decide), rfl⟩

theorem result_6 (w : World) : Calls Try.prog 75 #[.int .i64 6] w fun e w' => e = .returned (.int .i64 (resF 6)) ∧ w = w' := by
  go_enter Try.func75, Try.ntmps75
  go_wp2
  go_ret
  exact ⟨ret_i (by decide), rfl⟩

theorem result_7 (w : World) : Calls Try.prog 75 #[.int .i64 7] w fun e w' => e = .returned (.int .i64 (resF 7)) ∧ w = w' := by
  go_enter Try.func75, Try.ntmps75
  go_wp2
  go_ret
  exact ⟨ret_i (by decide), rfl⟩

theorem result_8 (w : World) : Calls Try.prog 75 #[.int .i64 8] w fun e w' => e = .returned (.int .i64 (resF 8)) ∧ w = w' := by
  go_enter Try.func75, Try.ntmps75
  go_wp2
  go_ret
  exact ⟨ret_i (by decide), rfl⟩

theorem result_9 (w : World) : Calls Try.prog 75 #[.int .i64 9] w fun e w' => e = .returned (.int .i64 (resF 9)) ∧ w = w' := by
  go_enter Try.func75, Try.ntmps75
  go_wp2
  go_ret
  exact ⟨ret_i (by decide), rfl⟩

theorem result_10 (w : World) : Calls Try.prog 75 #[.int .i64 10] w fun e w' => e = .returned (.int .i64 (resF 10)) ∧ w = w' := by
  go_enter Try.func75, Try.ntmps75
  go_wp2
  go_ret
  exact ⟨ret_i (by decide), rfl⟩

theorem result_11 (w : World) : Calls Try.prog 75 #[.int .i64 11] w fun e w' => e = .returned (.int .i64 (resF 11)) ∧ w = w' := by
  go_enter Try.func75, Try.ntmps75
  go_wp2
  go_ret
  exact ⟨ret_i (by decide), rfl⟩

theorem result_12 (w : World) : Calls Try.prog 75 #[.int .i64 12] w fun e w' => e = .returned (.int .i64 (resF 12)) ∧ w = w' := by
  go_enter Try.func75, Try.ntmps75
  go_wp2
  go_ret
  exact ⟨ret_i (by decide), rfl⟩

theorem result_13 (w : World) : Calls Try.prog 75 #[.int .i64 13] w fun e w' => e = .returned (.int .i64 (resF 13)) ∧ w = w' := by
  go_enter Try.func75, Try.ntmps75
  go_wp2
  go_ret
  exact ⟨ret_i (by decide), rfl⟩

theorem result_14 (w : World) : Calls Try.prog 75 #[.int .i64 14] w fun e w' => e = .returned (.int .i64 (resF 14)) ∧ w = w' := by
  go_enter Try.func75, Try.ntmps75
  go_wp2
  go_ret
  exact ⟨ret_i (by decide), rfl⟩

theorem result_15 (w : World) : Calls Try.prog 75 #[.int .i64 15] w fun e w' => e = .returned (.int .i64 (resF 15)) ∧ w = w' := by
  go_enter Try.func75, Try.ntmps75
  go_wp2
  go_ret
  exact ⟨ret_i (by decide), rfl⟩

theorem result_16 (w : World) : Calls Try.prog 75 #[.int .i64 16] w fun e w' => e = .returned (.int .i64 (resF 16)) ∧ w = w' := by
  go_enter Try.func75, Try.ntmps75
  go_wp2
  go_ret
  exact ⟨ret_i (by decide), rfl⟩

theorem result_17 (w : World) : Calls Try.prog 75 #[.int .i64 17] w fun e w' => e = .returned (.int .i64 (resF 17)) ∧ w = w' := by
  go_enter Try.func75, Try.ntmps75
  go_wp2
  go_ret
  exact ⟨ret_i (by decide), rfl⟩

theorem result_out (op : Int) (h : op < 0 ∨ 17 < op) (w : World) : Calls Try.prog 75 #[.int .i64 op] w fun e w' => e = .returned (.int .i64 (resF op)) ∧ w = w' := by
  have hr : Hid (resF op = -1) := if_neg (by omega)
  have e0 : (op == 0) = false := beq_eq_false_iff_ne.2 (by omega)
  have e1 : (op == 1) = false := beq_eq_false_iff_ne.2 (by omega)
  have e2 : (op == 2) = false := beq_eq_false_iff_ne.2 (by omega)
  have e3 : (op == 3) = false := beq_eq_false_iff_ne.2 (by omega)
  have e4 : (op == 4) = false := beq_eq_false_iff_ne.2 (by omega)
  have e5 : (op == 5) = false := beq_eq_false_iff_ne.2 (by omega)
  have e6 : (op == 6) = false := beq_eq_false_iff_ne.2 (by omega)
  have e7 : (op == 7) = false := beq_eq_false_iff_ne.2 (by omega)
  have e8 : (op == 8) = false := beq_eq_false_iff_ne.2 (by omega)
  have e9 : (op == 9) = false := beq_eq_false_iff_ne.2 (by omega)
  have e10 : (op == 10) = false := beq_eq_false_iff_ne.2 (by omega)
  have e11 : (op == 11) = false := beq_eq_false_iff_ne.2 (by omega)
  have e12 : (op == 12) = false := beq_eq_false_iff_ne.2 (by omega)
  have e13 : (op == 13) = false := beq_eq_false_iff_ne.2 (by omega)
  have e14 : (op == 14) = false := beq_eq_false_iff_ne.2 (by omega)
  have e15 : (op == 15) = false := beq_eq_false_iff_ne.2 (by omega)
  have e16 : (op == 16) = false := beq_eq_false_iff_ne.2 (by omega)
  have e17 : (op == 17) = false := beq_eq_false_iff_ne.2 (by omega)
  clear h
  go_enter Try.func75, Try.ntmps75
  go_wp2
  go_ret
  exact ⟨ret_i hr.out.symm, rfl⟩
theorem result_any (op : Int) (w : World) : Calls Try.prog 75 #[.int .i64 op] w fun e w' => e = .returned (.int .i64 (resF op)) ∧ w = w' := by
  by_cases h : op < 0 ∨ 17 < op
  · exact result_out op h w
  · have : op = 0 ∨ op = 1 ∨ op = 2 ∨ op = 3 ∨ op = 4 ∨ op = 5 ∨ op = 6 ∨ op = 7 ∨ op = 8 ∨ op = 9 ∨ op = 10 ∨ op = 11 ∨ op = 12 ∨ op = 13 ∨ op = 14 ∨ op = 15 ∨ op = 16 ∨ op = 17 := by omega
    rcases this with rfl | rfl | rfl | rfl | rfl | rfl | rfl | rfl | rfl | rfl | rfl | rfl | rfl | rfl | rfl | rfl | rfl | rfl
    · exact result_0 w
    · exact result_1 w
    · exact result_2 w
    · exact result_3 w
    · exact result_4 w
    · exact result_5 w
    · exact result_6 w
    · exact result_7 w
    · exact result_8 w
    · exact result_9 w
    · exact result_10 w
    · exact result_11 w
    · exact result_12 w
    · exact result_13 w
    · exact result_14 w
    · exact result_15 w
    · exact result_16 w
    · exact result_17 w
theorem result_v {op r : Int} (h : resF op = r) (w : World) : Calls Try.prog 75 #[.int .i64 op] w fun e w' => e = .returned (.int .i64 r) ∧ w = w' := by subst h; exact result_any op w

theorem needs_4 (w : World) : Calls Try.prog 91 #[.int .i64 4] w (NeedRet w 4) := by
  go_enter Try.func91, Try.ntmps91
  go_wp2
  go_ret
  exact ⟨_, _, rfl, need_new w [0] (by simp), below_alloc _ _⟩

theorem needs_5 (w : World) : Calls Try.prog 91 #[.int .i64 5] w (NeedRet w 5) := by
  go_enter Try.func91, Try.ntmps91
  go_wp2
  go_ret
  exact ⟨_, _, rfl, need_new w [0, 0] (by simp), below_alloc _ _⟩

theorem needs_6 (w : World) : Calls Try.prog 91 #[.int .i64 6] w (NeedRet w 6) := by
  go_enter Try.func91, Try.ntmps91
  go_wp2
  go_ret
  exact ⟨_, _, rfl, need_new w [0, 0] (by simp), below_alloc _ _⟩

theorem needs_7 (w : World) : Calls Try.prog 91 #[.int .i64 7] w (NeedRet w 7) := by
  go_enter Try.func91, Try.ntmps91
  go_wp2
  go_ret
  exact ⟨_, _, rfl, need_new w [0, 0] (by simp), below_alloc _ _⟩

theorem needs_8 (w : World) : Calls Try.prog 91 #[.int .i64 8] w (NeedRet w 8) := by
  go_enter Try.func91, Try.ntmps91
  go_wp2
  go_ret
  exact ⟨_, _, rfl, need_new w [0, 0] (by simp), below_alloc _ _⟩

theorem needs_9 (w : World) : Calls Try.prog 91 #[.int .i64 9] w (NeedRet w 9) := by
  go_enter Try.func91, Try.ntmps91
  go_wp2
  go_ret
  exact ⟨_, _, rfl, need_new w [0, 0] (by simp), below_alloc _ _⟩

theorem needs_10 (w : World) : Calls Try.prog 91 #[.int .i64 10] w (NeedRet w 10) := by
  go_enter Try.func91, Try.ntmps91
  go_wp2
  go_ret
  exact ⟨_, _, rfl, need_new w [1, 0, 0] (by simp), below_alloc _ _⟩

theorem needs_11 (w : World) : Calls Try.prog 91 #[.int .i64 11] w (NeedRet w 11) := by
  go_enter Try.func91, Try.ntmps91
  go_wp2
  go_ret
  exact ⟨_, _, rfl, need_new w [1] (by simp), below_alloc _ _⟩

theorem needs_12 (w : World) : Calls Try.prog 91 #[.int .i64 12] w (NeedRet w 12) := by
  go_enter Try.func91, Try.ntmps91
  go_wp2
  go_ret
  exact ⟨_, _, rfl, need_new w [1, 1] (by simp), below_alloc _ _⟩

theorem needs_13 (w : World) : Calls Try.prog 91 #[.int .i64 13] w (NeedRet w 13) := by
  go_enter Try.func91, Try.ntmps91
  go_wp2
  go_ret
  exact ⟨_, _, rfl, need_new w [1, 1] (by simp), below_alloc _ _⟩

theorem needs_14 (w : World) : Calls Try.prog 91 #[.int .i64 14] w (NeedRet w 14) := by
  go_enter Try.func91, Try.ntmps91
  go_wp2
  go_ret
  exact ⟨_, _, rfl, need_new w [1, 1] (by simp), below_alloc _ _⟩

theorem needs_15 (w : World) : Calls Try.prog 91 #[.int .i64 15] w (NeedRet w 15) := by
  go_enter Try.func91, Try.ntmps91
  go_wp2
  go_ret
  exact ⟨_, _, rfl, need_new w [1, 1, 1] (by simp), below_alloc _ _⟩

theorem needs_16 (w : World) : Calls Try.prog 91 #[.int .i64 16] w (NeedRet w 16) := by
  go_enter Try.func91, Try.ntmps91
  go_wp2
  go_ret
  exact ⟨_, _, rfl, need_new w [0, 0] (by simp), below_alloc _ _⟩

theorem needs_17 (w : World) : Calls Try.prog 91 #[.int .i64 17] w (NeedRet w 17) := by
  go_enter Try.func91, Try.ntmps91
  go_wp2
  go_ret
  exact ⟨_, _, rfl, need_new w [0, 0] (by simp), below_alloc _ _⟩

theorem needs_out (op : Int) (h : op < 4 ∨ 17 < op) (w : World) : Calls Try.prog 91 #[.int .i64 op] w (NeedRet w op) := by
  have hf : formF op = none := by
    rcases hf : formF op with _ | f
    · rfl
    · have := formF_lt (f := f) hf; omega
  have hr : Hid (needsF op = []) := by show _ = _; unfold needsF; rw [hf]
  have e4 : (op == 4) = false := beq_eq_false_iff_ne.2 (by omega)
  have e5 : (op == 5) = false := beq_eq_false_iff_ne.2 (by omega)
  have e6 : (op == 6) = false := beq_eq_false_iff_ne.2 (by omega)
  have e7 : (op == 7) = false := beq_eq_false_iff_ne.2 (by omega)
  have e8 : (op == 8) = false := beq_eq_false_iff_ne.2 (by omega)
  have e9 : (op == 9) = false := beq_eq_false_iff_ne.2 (by omega)
  have e10 : (op == 10) = false := beq_eq_false_iff_ne.2 (by omega)
  have e11 : (op == 11) = false := beq_eq_false_iff_ne.2 (by omega)
  have e12 : (op == 12) = false := beq_eq_false_iff_ne.2 (by omega)
  have e13 : (op == 13) = false := beq_eq_false_iff_ne.2 (by omega)
  have e14 : (op == 14) = false := beq_eq_false_iff_ne.2 (by omega)
  have e15 : (op == 15) = false := beq_eq_false_iff_ne.2 (by omega)
  have e16 : (op == 16) = false := beq_eq_false_iff_ne.2 (by omega)
  have e17 : (op == 17) = false := beq_eq_false_iff_ne.2 (by omega)
  clear h hf
  go_enter Try.func91, Try.ntmps91
  go_wp2
  go_ret
  refine ⟨some ⟨w.heap.size, 0, none⟩, 0, by rw [hr.out]; rfl, by rw [hr.out]; exact need_new w [] (by simp), below_alloc _ _⟩
theorem needs_any (op : Int) (w : World) : Calls Try.prog 91 #[.int .i64 op] w (NeedRet w op) := by
  by_cases h : op < 4 ∨ 17 < op
  · exact needs_out op h w
  · have : op = 4 ∨ op = 5 ∨ op = 6 ∨ op = 7 ∨ op = 8 ∨ op = 9 ∨ op = 10 ∨ op = 11 ∨ op = 12 ∨ op = 13 ∨ op = 14 ∨ op = 15 ∨ op = 16 ∨ op = 17 := by omega
    rcases this with rfl | rfl | rfl | rfl | rfl | rfl | rfl | rfl | rfl | rfl | rfl | rfl | rfl | rfl
    · exact needs_4 w
    · exact needs_5 w
    · exact needs_6 w
    · exact needs_7 w
    · exact needs_8 w
    · exact needs_9 w
    · exact needs_10 w
    · exact needs_11 w
    · exact needs_12 w
    · exact needs_13 w
    · exact needs_14 w
    · exact needs_15 w
    · exact needs_16 w
    · exact needs_17 w

def finB (T : TS) (t : Tm) : Bool := if t.op = 0 ∨ t.op = 1 then decide (0 ≤ t.v ∧ t.v < 24) else if t.op = 2 then decide (wrapW T.width t.v = t.v) else if t.op = 3 then decide (t.v = 0 ∨ t.v = 1) else decide (t.v = 0)
structure RF (T : TS) (t : Tm) (nd : List Int) (s0 s1 s2 : Int) : Prop where
  at_ : ∀ i, i < 3 → (sAt s0 s1 s2 i = -1 ∧ nd.length ≤ i) ∨ (sAt s0 s1 s2 i ≠ -1 ∧ nd[i]? = some (sAt s0 s1 s2 i))
  fit : fitsT T t = ((argOk T s0 t.a && argOk T s1 t.b && argOk T s2 t.c) && finB T t)
theorem rf_any {T : TS} {t : Tm} (h0 : 0 ≤ t.op) (h1 : t.op ≤ 17) : ∃ s0 s1 s2, RF T t (needsF t.op) s0 s1 s2 := by
  rcases hf : formF t.op with _ | ⟨⟨s0, s1, s2⟩, s⟩
  · refine ⟨-1, -1, -1, ⟨fun i hi => ?_, ?_⟩⟩
    · unfold needsF; rw [hf]
      rcases three_cases hi with rfl | rfl | rfl <;> exact .inl ⟨rfl, by simp⟩
    · have hop : t.op < 4 := by
        by_cases h : t.op < 4
        · exact h
        · exfalso
          have : t.op = 4 ∨ t.op = 5 ∨ t.op = 6 ∨ t.op = 7 ∨ t.op = 8 ∨ t.op = 9 ∨ t.op = 10 ∨ t.op = 11 ∨ t.op = 12 ∨ t.op = 13 ∨ t.op = 14 ∨ t.op = 15 ∨ t.op = 16 ∨ t.op = 17 := by omega
          rcases this with e | e | e | e | e | e | e | e | e | e | e | e | e | e <;> (rw [e] at hf; cases hf)
      have e : ∀ x, argOk T (-1) x = decide (x = 0) := fun x => by unfold argOk; exact if_pos rfl
      unfold fitsT
      rw [hf]
      dsimp only
      rw [e, e, e]
      unfold leafOk finB
      have : t.op = 0 ∨ t.op = 1 ∨ t.op = 2 ∨ t.op = 3 := by omega
      by_cases ha : t.a = 0 <;> by_cases hb : t.b = 0 <;> by_cases hc : t.c = 0 <;> simp [ha, hb, hc]
      rcases this with e | e | e | e <;> simp [e]
  · refine ⟨s0, s1, s2, ⟨fun i hi => ?_, ?_⟩⟩
    · unfold needsF; rw [hf]
      rcases formF_cases hf with ⟨_, h⟩ | ⟨_, h⟩ | ⟨_, h⟩ | ⟨_, h⟩ | ⟨_, h⟩ | ⟨_, h⟩ | ⟨_, h⟩
      all_goals (simp only [Prod.mk.injEq] at h; obtain ⟨⟨rfl, rfl, rfl⟩, rfl⟩ := h)
      all_goals (rcases three_cases hi with rfl | rfl | rfl <;> first | exact .inl ⟨rfl, by decide⟩ | exact .inr ⟨by decide, rfl⟩)
    · obtain ⟨h2, h3⟩ := formF_lt hf
      unfold fitsT
      rw [hf]
      dsimp only
      unfold finB
      rw [if_neg (by omega), if_neg (by omega), if_neg (by omega)]
theorem RF.no {T : TS} {t : Tm} {nd : List Int} {s0 s1 s2 : Int} (h : RF T t nd s0 s1 s2) {i : Nat} (hi : i < 3) (hn : argOk T (sAt s0 s1 s2 i) (sAt t.a t.b t.c i) = false) : fitsT T t = false := by
  rw [h.fit]
  rcases three_cases hi with rfl | rfl | rfl
  · rw [show argOk T s0 t.a = false from hn]; rfl
  · rw [show argOk T s1 t.b = false from hn]; simp
  · rw [show argOk T s2 t.c = false from hn]; simp
theorem RF.yes {T : TS} {t : Tm} {nd : List Int} {s0 s1 s2 : Int} (h : RF T t nd s0 s1 s2) (hn : ∀ i, i < 3 → argOk T (sAt s0 s1 s2 i) (sAt t.a t.b t.c i) = true) : fitsT T t = finB T t := by
  rw [h.fit, show argOk T s0 t.a = true from hn 0 (by omega), show argOk T s1 t.b = true from hn 1 (by omega), show argOk T s2 t.c = true from hn 2 (by omega)]; rfl
theorem two_boxes {w w1 : World} {c1 c2 : Array Value} {t1 t2 : Nat} (hb : Below ((w.alloc (.cells c1 t1)).alloc (.cells c2 t2)).heap.size ((w.alloc (.cells c1 t1)).alloc (.cells c2 t2)) w1) :
    Below w.heap.size w w1 ∧ w1.heap[w.heap.size]? = some (.cells c1 t1 (0, 0)) ∧ w1.heap[w.heap.size + 1]? = some (.cells c2 t2 (0, 0)) := by
  have e2 := heap_alloc_new (w.alloc (.cells c1 t1)) (.cells c2 t2)
  rw [show (w.alloc (.cells c1 t1)).heap.size = w.heap.size + 1 by simp] at e2
  have e1 := (Below.heap_alloc (w.alloc (.cells c1 t1)) (.cells c2 t2) _ (lt_of_some (heap_alloc_new w (.cells c1 t1)))).trans (heap_alloc_new w (.cells c1 t1))
  exact ⟨below_of2 hb, (hb.block _ (lt_of_some e1)).trans e1, (hb.block _ (lt_of_some e2)).trans e2⟩
theorem rwrap_v {a n v : Int} (h : wrapW a n = v) (w : World) : Calls Try.prog 98 #[.int .i64 a, .int .i64 n] w fun e w' => e = .returned (.int .i64 v) ∧ w = w' := by subst h; exact rwrap_any a n w
theorem ret_b {a b : Bool} (h : a = b) : Ending.returned (.bool a) = .returned (.bool b) := by rw [h]

section
variable {A : Option Addr} {c : Nat} {T : TS} {w : World}
set_option maxRecDepth 100000 in
set_option maxHeartbeats 4000000 in
theorem right_any (hs : SlT w A c T.nodes) (hok : ∀ t ∈ T.nodes, 0 ≤ t.op ∧ t.op ≤ 17) (t : Tm) :
    Calls Try.prog 136 #[.agg #[.int .i64 T.width, .slice A T.nodes.length c], tagg t] w fun e w' => e = .returned (.bool (fitsT T t)) ∧ Below w.heap.size w w' := by
  have hbig := hs.big
  by_cases hop : 0 ≤ t.op ∧ t.op ≤ 17
  · obtain ⟨s0, s1, s2, hrf⟩ := rf_any (T := T) hop.1 hop.2
    have HRF := Lib.hid hrf
    have HS := Lib.hid hs
    have HOK := Lib.hid hok
    have hres : (resF t.op < 0) = False := by
      have h := sortF_01 t.op
      unfold resF; rw [if_pos hop]; simp; omega
    obtain ⟨rr, hrr⟩ : ∃ r, resF t.op = r := ⟨_, rfl⟩
    rw [hrr] at hres
    have d0 : decide (rr < 0) = false := decide_eq_false (by rw [hres]; exact id)
    have HRR := Lib.hid hrr
    obtain ⟨nd, hnd⟩ : ∃ nd, needsF t.op = nd := ⟨_, rfl⟩
    have HND := Lib.hid hnd
    rw [hnd] at HRF
    have hnn := needs_any t.op
    have HNN := Lib.hid hnn
    clear hs hok hrf hres hrr hnd hnn
    obtain ⟨op, v, x0, x1, x2⟩ := t
    unfold tagg
    dsimp only at HRR HND HNN hop ⊢
    go_enter Try.func136, Try.ntmps136
    go_wp2_with (first
      | (go_at_call 75; go_must (refine (result_v HRR.out _).mono ?_; rintro e w' ⟨rfl, rfl⟩))
      | (go_at_call 91; go_must (refine (HNN.out _).mono ?_; rintro e w1 ⟨An, cn, rfl, hsn, hbn⟩; rw [HND.out] at hsn; rw [HND.out]; have HSN := Lib.hid hsn; have HBN := Lib.hid hbn; clear hsn hbn)))
    obtain ⟨hbw, hk2, hk3⟩ := two_boxes HBN.out
    have HBW := Lib.hid hbw
    have HK2 := Lib.hid hk2
    have HK3 := Lib.hid hk3
    clear hbw hk2 hk3 HBN
    go_loopw [6] (fun u wr => ∃ i : Nat, i ≤ 3 ∧ u = .int .i64 i ∧ (∀ j, j < i → argOk T (sAt s0 s1 s2 j) (sAt x0 x1 x2 j) = true) ∧ Below w1.heap.size w1 wr) (fun u _ => 3 - (intOf u).toNat)
    case atStart => exact ⟨0, by omega, rfl, fun j hj => by omega, Below.refl _ _⟩
    case round =>
      obtain ⟨i, hi, rfl, hall, hbr⟩ := hrel
      rename_i wr
      have HALL := Lib.hid hall
      have HBR := Lib.hid hbr
      have HBZ : Hid (Below w.heap.size w wr) := HBW.out.trans (hbr.mono HBW.out.size)
      have b2 := (hbr.block _ (lt_of_some HK2.out)).trans HK2.out
      have b3 := (hbr.block _ (lt_of_some HK3.out)).trans HK3.out
      have HB2 := Lib.hid b2
      have HB3 := Lib.hid b3
      have kt : wr.cell? ⟨w.heap.size, 1, none⟩ = some (.slice A T.nodes.length c) := by simp [World.cell?, b2]
      have kw : wr.cell? ⟨w.heap.size, 0, none⟩ = some (.int .i64 T.width) := by simp [World.cell?, b2]
      have kop : wr.cell? ⟨w.heap.size + 1, 0, none⟩ = some (.int .i64 op) := by simp [World.cell?, b3]
      have kv : wr.cell? ⟨w.heap.size + 1, 1, none⟩ = some (.int .i64 v) := by simp [World.cell?, b3]
      have HX := Lib.hid (fun (i : Nat) (hi : i < 3) => (show wr.cell? ⟨w.heap.size + 1, 2 + i, none⟩ = some (.int .i64 (sAt x0 x1 x2 i)) by
        rcases three_cases hi with rfl | rfl | rfl <;> simp [World.cell?, b3, sAt]))
      clear hall hbr b2 b3
      by_cases hlt : i < 3
      · have hxi := HX.out i hlt
        have hat := HRF.out.at_ i hlt
        have HNO := Lib.hid (fun hn => HRF.out.no (i := i) hlt hn)
        dsimp only at HNO
        obtain ⟨x, hx⟩ : ∃ x, sAt x0 x1 x2 i = x := ⟨_, rfl⟩
        obtain ⟨s, hs⟩ : ∃ s, sAt s0 s1 s2 i = s := ⟨_, rfl⟩
        have HALL2 : Hid (argOk T s x = true → ∀ j, j < i + 1 → argOk T (sAt s0 s1 s2 j) (sAt x0 x1 x2 j) = true) := fun h j hj => by
          by_cases e : j = i
          · subst e; rw [hs, hx]; exact h
          · exact HALL.out j (by omega)
        rw [hs, hx] at HNO
        rw [hx] at hxi
        rw [hs] at hat
        have hi3 : (i : Int) < 3 := by omega
        clear hx hs
        rcases hat with ⟨rfl, hle⟩ | ⟨hs1, hget⟩
        · have g1 : decide ((i : Int) ≥ (nd.length : Int)) = true := decide_eq_true (by omega)
          have g1' : decide (nd.length ≤ i) = true := decide_eq_true hle
          have g2 : decide ((i : Int) < (nd.length : Int)) = false := decide_eq_false (by omega)
          have g2' : decide (i < nd.length) = false := decide_eq_false (by omega)
          by_cases hx0 : x = 0
          · have e1 : (x != 0) = false := by rw [hx0]; rfl
            have HOKX : Hid (argOk T (-1) x = true) := by show _ = _; unfold argOk; rw [if_pos rfl]; exact decide_eq_true hx0
            clear hx0
            go_wp2
            go_quiet (fail)
            go_wp2
            go_roundw
            case rel => exact ⟨i + 1, by omega, by go_num, HALL2.out HOKX.out, below_drewN HBR.out nq⟩
            case measure => simp [intOf]; omega
          · have e1 : (x != 0) = true := by rw [bne_iff_ne]; exact hx0
            have HOKX : Hid (argOk T (-1) x = false) := by show _ = _; unfold argOk; rw [if_pos rfl]; exact decide_eq_false hx0
            clear hx0
            go_wp2
            go_ret
            exact ⟨ret_b (HNO.out HOKX.out).symm, HBZ.out⟩
        · have hil := (List.getElem?_eq_some_iff.1 hget).1
          have g1 : decide ((i : Int) ≥ (nd.length : Int)) = false := decide_eq_false (by omega)
          have g1' : decide (nd.length ≤ i) = false := decide_eq_false (by omega)
          have g2 : decide ((i : Int) < (nd.length : Int)) = true := decide_eq_true (by omega)
          have g2' : decide (i < nd.length) = true := decide_eq_true hil
          have hilI : (i : Int) < (nd.length : Int) := by omega
          obtain ⟨bn, on, xn, hAn, hxn, hcn⟩ := (HSN.out.below HBR.out).at_ hil
          rw [hget] at hxn
          cases hxn
          subst hAn
          clear hget
          by_cases hx0 : x < 0
          · have e1 : decide (x < 0) = true := decide_eq_true hx0
            have HOKX : Hid (argOk T s x = false) := by
              show _ = _; unfold argOk; rw [if_neg hs1, show nodeAt T x = none from by unfold nodeAt; rw [if_neg (by omega)]]
            clear hx0 hs1
            go_wp2
            go_quiet (fail)
            go_wp2
            go_ret
            exact ⟨ret_b (HNO.out HOKX.out).symm, below_drewN HBZ.out nq⟩
          · have e1 : decide (x < 0) = false := decide_eq_false hx0
            obtain ⟨k, rfl⟩ := Int.eq_ofNat_of_zero_le (show 0 ≤ x by omega)
            clear hx0
            by_cases hk : T.nodes.length ≤ k
            · have e2 : decide ((k : Int) ≥ (T.nodes.length : Int)) = true := decide_eq_true (by omega)
              have e2' : decide (T.nodes.length ≤ k) = true := decide_eq_true hk
              have HOKX : Hid (argOk T s (k : Int) = false) := by
                show _ = _; unfold argOk; rw [if_neg hs1, show nodeAt T (k : Int) = none from by unfold nodeAt; rw [if_pos (by omega)]; exact List.getElem?_eq_none hk]
              clear hs1
              go_wp2
              go_quiet (fail)
              go_wp2
              go_ret
              exact ⟨ret_b (HNO.out HOKX.out).symm, below_drewN HBZ.out nq⟩
            · have e2 : decide ((k : Int) ≥ (T.nodes.length : Int)) = false := decide_eq_false (by omega)
              have e2' : decide (T.nodes.length ≤ k) = false := decide_eq_false hk
              have hkI : (k : Int) < (T.nodes.length : Int) := by omega
              have hkx : T.nodes[k]? = some T.nodes[k] := List.getElem?_eq_getElem (by omega)
              obtain ⟨t', ht'⟩ : ∃ t', T.nodes[k] = t' := ⟨_, rfl⟩
              rw [ht'] at hkx
              obtain ⟨bb, ob, hA, hcell⟩ := (HS.out.below HBZ.out).2.2 (by omega)
              obtain ⟨n0, -, -, -, -⟩ := hcell k t' hkx
              subst hA
              have hop' := HOK.out t' (List.mem_of_getElem? hkx)
              have hrs : resF t'.op = sortF t'.op := if_pos hop'
              obtain ⟨so, hso⟩ : ∃ so, sortF t'.op = so := ⟨_, rfl⟩
              rw [hso] at hrs
              have HRS := Lib.hid hrs
              have hna : nodeAt T (k : Int) = some t' := by unfold nodeAt; rw [if_pos (by omega)]; exact hkx
              by_cases hss : so = s
              · have e3 : (so != s) = false := by rw [hss]; simp
                have HOKX : Hid (argOk T s (k : Int) = true) := by
                  show _ = _; unfold argOk; rw [if_neg hs1, hna]; exact decide_eq_true (hso.trans hss)
                clear hs1 hss hso hrs hna hop' hcell hkx ht'
                go_wp2
                go_quiet ((go_at_call 75; exact quiet_left (result_v HRS.out _)))
                go_wp2
                go_roundw
                case rel => exact ⟨i + 1, by omega, by go_num, HALL2.out HOKX.out, below_drewN HBR.out nq⟩
                case measure => simp [intOf]; omega
              · have e3 : (so != s) = true := by rw [bne_iff_ne]; exact hss
                have HOKX : Hid (argOk T s (k : Int) = false) := by
                  show _ = _; unfold argOk; rw [if_neg hs1, hna]; exact decide_eq_false (fun e => hss (hso.symm.trans e))
                clear hs1 hss hso hrs hna hop' hcell hkx ht'
                go_wp2
                go_quiet ((go_at_call 75; exact quiet_left (result_v HRS.out _)))
                go_wp2
                go_ret
                exact ⟨ret_b (HNO.out HOKX.out).symm, below_drewN HBZ.out nq⟩
      · obtain rfl : i = 3 := by omega
        have HFIT : Hid (fitsT T ⟨op, v, x0, x1, x2⟩ = finB T ⟨op, v, x0, x1, x2⟩) := HRF.out.yes (fun j hj => HALL.out j hj)
        clear HX HALL
        by_cases h0 : op = 0 ∨ op = 1
        · have hfin : finB T ⟨op, v, x0, x1, x2⟩ = decide (0 ≤ v ∧ v < 24) := by unfold finB; rw [if_pos h0]
          have HFIN := Lib.hid hfin
          clear hfin
          by_cases hv0 : 0 ≤ v
          · have e1 : decide (v ≥ 0) = true := decide_eq_true hv0
            by_cases hv1 : v < 24
            · have e2 : decide (v < 24) = true := decide_eq_true hv1
              have HR : Hid (decide (0 ≤ v ∧ v < 24) = true) := decide_eq_true ⟨hv0, hv1⟩
              clear hv0 hv1
              rcases h0 with rfl | rfl <;> (go_wp2; go_ret; exact ⟨ret_b (by rw [HFIT.out, HFIN.out, HR.out]), HBZ.out⟩)
            · have e2 : decide (v < 24) = false := decide_eq_false hv1
              have HR : Hid (decide (0 ≤ v ∧ v < 24) = false) := decide_eq_false (fun h => hv1 h.2)
              clear hv0 hv1
              rcases h0 with rfl | rfl <;> (go_wp2; go_ret; exact ⟨ret_b (by rw [HFIT.out, HFIN.out, HR.out]), HBZ.out⟩)
          · have e1 : decide (v ≥ 0) = false := decide_eq_false hv0
            have HR : Hid (decide (0 ≤ v ∧ v < 24) = false) := decide_eq_false (fun h => hv0 h.1)
            clear hv0
            rcases h0 with rfl | rfl <;> (go_wp2; go_ret; exact ⟨ret_b (by rw [HFIT.out, HFIN.out, HR.out]), HBZ.out⟩)
        · have f0 : (op == 0) = false := beq_eq_false_iff_ne.2 (fun h => h0 (.inl h))
          have f1 : (op == 1) = false := beq_eq_false_iff_ne.2 (fun h => h0 (.inr h))
          by_cases h2 : op = 2
          · have hfin : finB T ⟨op, v, x0, x1, x2⟩ = decide (wrapW T.width v = v) := by unfold finB; rw [if_neg h0, if_pos h2]
            have HFIN := Lib.hid hfin
            obtain ⟨u, hu⟩ : ∃ u, wrapW T.width v = u := ⟨_, rfl⟩
            have HU := Lib.hid hu
            have hbq : (u == v) = decide (wrapW T.width v = v) := by rw [hu]; rfl
            have HBQ := Lib.hid hbq
            subst h2
            clear hfin hu hbq h0
            go_wp2
            go_quiet ((go_at_call 98; exact quiet_left (rwrap_v HU.out _)))
            go_wp2
            go_ret
            exact ⟨ret_b (by rw [HFIT.out, HFIN.out, ← HBQ.out]), below_drewN HBZ.out nq⟩
          · have f2 : (op == 2) = false := beq_eq_false_iff_ne.2 h2
            by_cases h3 : op = 3
            · have hfin : finB T ⟨op, v, x0, x1, x2⟩ = decide (v = 0 ∨ v = 1) := by unfold finB; rw [if_neg h0, if_neg h2, if_pos h3]
              have HFIN := Lib.hid hfin
              subst h3
              by_cases hv0 : v = 0
              · have e1 : (v == 0) = true := by rw [hv0]; rfl
                have HR : Hid (decide (v = 0 ∨ v = 1) = true) := decide_eq_true (.inl hv0)
                clear hv0 hfin
                go_wp2
                go_ret
                exact ⟨ret_b (by rw [HFIT.out, HFIN.out, HR.out]), HBZ.out⟩
              · have e1 : (v == 0) = false := beq_eq_false_iff_ne.2 hv0
                have hbq : (v == 1) = decide (v = 0 ∨ v = 1) := by simp [hv0]; rfl
                have HBQ := Lib.hid hbq
                clear hv0 hfin hbq
                go_wp2
                go_ret
                exact ⟨ret_b (by rw [HFIT.out, HFIN.out, ← HBQ.out]), HBZ.out⟩
            · have f3 : (op == 3) = false := beq_eq_false_iff_ne.2 h3
              have hfin : finB T ⟨op, v, x0, x1, x2⟩ = decide (v = 0) := by unfold finB; rw [if_neg h0, if_neg h2, if_neg h3]
              have HFIN := Lib.hid hfin
              have hbq : (v == 0) = decide (v = 0) := rfl
              have HBQ := Lib.hid hbq
              clear hfin hbq h0 h2 h3
              go_wp2
              go_ret
              exact ⟨ret_b (by rw [HFIT.out, HFIN.out, ← HBQ.out]), HBZ.out⟩
  · have hr : resF t.op = -1 := if_neg hop
    have HR := Lib.hid hr
    have HF : Hid (fitsT T t = false) := by
      show _ = _
      have hf : formF t.op = none := by
        rcases hf : formF t.op with _ | f
        · rfl
        · have := formF_lt (f := f) hf; omega
      unfold fitsT; rw [hf]; dsimp only; unfold leafOk
      rw [if_neg (by omega), if_neg (by omega), if_neg (by omega)]; simp
    clear hs hok hr hop
    obtain ⟨op, v, x0, x1, x2⟩ := t
    unfold tagg
    dsimp only at HR ⊢
    go_enter Try.func136, Try.ntmps136
    go_wp2_with (go_at_call 75; go_must (refine (result_v HR.out _).mono ?_; rintro e w' ⟨rfl, rfl⟩))
    go_ret
    exact ⟨ret_b HF.out.symm, below_of2 (Below.refl _ _)⟩
end
end Go.Proofs.Ytgmcajojigedaaa
