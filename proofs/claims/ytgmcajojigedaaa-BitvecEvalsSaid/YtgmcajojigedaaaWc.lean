/- The reference of chapter 22: Make (printed by genwc.py). -/
import Derived.Test.YtgmcajojigedaaaWa
import Derived.ArgAppend
set_option linter.unusedSimpArgs false
set_option linter.unusedVariables false
namespace Go.Proofs.Ytgmcajojigedaaa
open Go.RowKit

theorem wp_append_grows {P : Program} (w : World) {o : Oper} {a : Act} {K : Act → World → Prop} {Q : Exit → Act → World → Prop}
    (s x : Operand) (t : TypeId) (hop : o.op = Op.call { callee := Callee.builtin Builtin.append, args := #[s, x], argTypes := #[t, t] })
    (e : TypeId) (i : TypeInfo) (z : Value) (size bytes : Nat) (h1 : P.underlying t = some (.slice e)) (h2 : P.info? e = some i) (h3 : i.zero = some z) (h4 : i.size = size) (h5 : i.bytes = bytes) (h6 : z.cells.size = size) (h7 : 0 < size)
    (ao : Option Addr) (n cap : Nat) (olds : List Value) (hs : a.eval s = .slice ao n cap) (hnone : ao = none → n = 0 ∧ cap = 0) (hlo : olds.length = n * size) (holds : ∀ b, ao = some b → ∀ j u, olds[j]? = some u → w.cell? (b.add j) = some u)
    (ad : Addr) (m c : Nat) (news : List Value) (hx : a.eval x = .slice (some ad) m c) (hn : news.length = m * size) (hc : ∀ j u, news[j]? = some u → w.cell? (ad.add j) = some u) (h1c : ∀ u ∈ news, u.oneCell' = true)
    (hfull : cap < n + m) (b1 : n + m ≤ maxLen) (b2 : (n + m) * bytes ≤ 140737488355328)
    (hK : ∀ v' w', w'.ownsRow w.heap.size e size v' (n + m) (olds ++ news) → w.grownBy w' none → K (a.put o.dst v') w') : o.wp P a w K Q := by
  cases ao with
  | some b =>
    obtain ⟨v', w', hrun, r1, r2⟩ := run_append_arg_grows (P := P) w t o.type e i z size bytes h1 h2 h3 h4 h5 h6 h7 b n cap olds hlo (holds b rfl) ad m c news hn hc hfull b1 b2
    unfold Oper.wp
    simp [execOp, hop, resolve, invoke, builtin, hs, hx, hrun, Result.andThen]
    exact hK _ _ r1 r2
  | none =>
    obtain ⟨rfl, rfl⟩ := hnone rfl
    obtain rfl : olds = [] := List.eq_nil_of_length_eq_zero (by simpa using hlo)
    obtain ⟨v', w', hrun, r1, r2, _⟩ := run_append_own (P := P) w w.heap.size t o.type e i z size bytes h1 h2 h3 h4 h5 h6 h7 (.slice none 0 0) 0 [] (World.ownsRow_nil w _ e size) ad m c news hn hc h1c b1 b2 (Nat.le_refl _)
    unfold Oper.wp
    simp [execOp, hop, resolve, invoke, builtin, hs, hx, hrun, Result.andThen]
    exact hK _ _ r1 r2
theorem op_bounds {T : TS} (hw : TWf T) : ∀ t ∈ T.nodes, 0 ≤ t.op ∧ t.op ≤ 17 := by
  intro t ht
  obtain ⟨k, hk⟩ := List.getElem?_of_mem ht
  have h := hw.fit k t hk
  rcases hf : formF t.op with _ | ⟨⟨s0, s1, s2⟩, s⟩
  · unfold fitsT at h
    rw [hf] at h
    dsimp only at h
    unfold leafOk at h
    by_cases h1 : t.op = 0 ∨ t.op = 1
    · omega
    · by_cases h2 : t.op = 2
      · omega
      · by_cases h3 : t.op = 3
        · omega
        · rw [if_neg h1, if_neg h2, if_neg h3] at h; simp at h
  · have := formF_lt hf; omega
theorem SlT.row {w : World} {A : Option Addr} {c : Nat} {l : List Tm} (h : SlT w A c l) : ∀ b, A = some b → ∀ j u, (tcells l)[j]? = some u → w.cell? (b.add j) = some u := by
  intro b hb j u hu
  subst hb
  have hj : j < l.length * 5 := by have := (List.getElem?_eq_some_iff.1 hu).1; rwa [tcells_length] at this
  have hn : 0 < l.length := by omega
  obtain ⟨b', o, he, hc⟩ := h.2.2 hn
  cases he
  have hk : j / 5 < l.length := by omega
  have hx : l[j / 5]? = some l[j / 5] := List.getElem?_eq_getElem hk
  obtain ⟨a0, a1, a2, a3, a4⟩ := hc _ _ hx
  have hg := tcells_get l (j / 5) l[j / 5] hx (j % 5) (by omega)
  rw [show j / 5 * 5 + j % 5 = j by omega, hu] at hg
  rw [Addr.add_lit, show o + j = o + j / 5 * 5 + j % 5 by omega]
  have h5 : j % 5 = 0 ∨ j % 5 = 1 ∨ j % 5 = 2 ∨ j % 5 = 3 ∨ j % 5 = 4 := by omega
  rcases h5 with e | e | e | e | e <;> (rw [e] at hg ⊢; cases hg)
  · exact a0
  · exact a1
  · exact a2
  · exact a3
  · exact a4
theorem results_cell2 {fn : Func} {p u v : Tmp} {ty : TypeId} (h : fn.results = #[.cell p ty, .tmp u, .tmp v]) {tmps : Array Value} {P : Program} {w : World} {a : Addr} {x : Value} (hp : tmps.getD p undef = .pointer (some a)) (hl : (loadVar ty a).run P w = .ok x w) :
    (results fn tmps).run P w = .ok (.tuple #[x, tmps.getD u undef, tmps.getD v undef]) w := by
  have hp' : tmps[p]?.getD undef = .pointer (some a) := by simpa using hp
  simp only [results, h]
  simp [Sem.run_bind, Result.andThen, asAddr, hp', hl]
theorem loadVar66 {W : World} {b : Nat} {x y : Value} (h0 : W.cell? ⟨b, 0, none⟩ = some x) (h1 : W.cell? ⟨b, 1, none⟩ = some y) : (loadVar 66 ⟨b, 0, none⟩).run Try.prog W = .ok (.agg #[x, y]) W := by
  have i1 : ∀ w, (isAgg 66).run Try.prog w = .ok true w := fun w => by kernel_rfl
  have i2 : ∀ w, (sizeOf 66).run Try.prog w = .ok 2 w := fun w => by kernel_rfl
  have h := run_loadCells_list (P := Try.prog) W ⟨b, 0, none⟩ [x, y] (fun j v hj => by
    rw [Addr.add_lit, Nat.zero_add]
    rcases j with _ | _ | j
    · cases hj; exact h0
    · cases hj; exact h1
    · simp at hj)
  have h' : (loadCells ⟨b, 0, none⟩ 2).run Try.prog W = .ok #[x, y] W := h
  simp [loadVar, i1, i2, h']
theorem two_set {W : World} {b t : Nat} {c0 c1 : Value} (x y : Value) (hb : W.heap[b]? = some (.cells #[c0, c1] t (0, 0))) :
    ((W.setCell ⟨b, 0, none⟩ x).setCell ⟨b, 1, none⟩ y).cell? ⟨b, 0, none⟩ = some x ∧ ((W.setCell ⟨b, 0, none⟩ x).setCell ⟨b, 1, none⟩ y).cell? ⟨b, 1, none⟩ = some y := by
  rw [setCell_eq_setRow W b 0 _ t (0, 0) x hb]
  have h2 := setRow_heap W b _ (#[c0, c1].setIfInBounds 0 x) t (0, 0) hb
  rw [setCell_eq_setRow _ b 1 _ t (0, 0) y h2]
  exact ⟨(cell_setRow_same _ b 0 _ _ t (0, 0) h2).trans rfl, (cell_setRow_same _ b 1 _ _ t (0, 0) h2).trans rfl⟩
theorem own_shape2 {w : World} {B e sz n : Nat} {v : Value} {xs : List Value} (h : w.ownsRow B e sz v n xs) (hn : 0 < n) : ∃ g cap, v = .slice (some ⟨g, 0, none⟩) n cap ∧ B ≤ g := by
  rcases h.2 with ⟨_, h0⟩ | ⟨g, cap, cur, rfl, h1, _⟩
  · omega
  · exact ⟨g, cap, rfl, h1⟩
theorem SlT.set {w : World} {g c b j : Nat} {l : List Tm} {u : Value} (h : SlT w (some ⟨g, 0, none⟩) c l) (hne : b ≠ g) : SlT (w.setCell ⟨b, j, none⟩ u) (some ⟨g, 0, none⟩) c l :=
  ⟨h.1, h.2.1, fun hn => by
    obtain ⟨b', o, he, hc⟩ := h.2.2 hn
    cases he
    refine ⟨g, 0, rfl, fun k t hk => ?_⟩
    obtain ⟨a0, a1, a2, a3, a4⟩ := hc k t hk
    have key : ∀ o v, w.cell? ⟨g, o, none⟩ = some v → (w.setCell ⟨b, j, none⟩ u).cell? ⟨g, o, none⟩ = some v := fun o v h => (World.cell?_of_block (w := w) (Below.heap_setCell w ⟨b, j, none⟩ u g (fun e => hne e.symm))).trans h
    exact ⟨key _ _ a0, key _ _ a1, key _ _ a2, key _ _ a3, key _ _ a4⟩⟩
theorem slT_own {w : World} {B g cap : Nat} {l : List Tm} {t : Tm} (h : w.ownsRow B 84 5 (.slice (some ⟨g, 0, none⟩) (l.length + 1) cap) (l.length + 1) (tcells l ++ tcell t)) : SlT w (some ⟨g, 0, none⟩) cap (l ++ [t]) := by
  have e : tcells (l ++ [t]) = tcells l ++ tcell t := by simp [tcells]
  refine slT_of_nodes (nodes_of_own (base := B) ?_)
  rw [e, List.length_append]
  exact h
theorem one_set {W : World} {b t : Nat} {c0 c1 : Value} (y : Value) (hb : W.heap[b]? = some (.cells #[c0, c1] t (0, 0))) : (W.setCell ⟨b, 1, none⟩ y).cell? ⟨b, 1, none⟩ = some y := by
  rw [setCell_eq_setRow W b 1 _ t (0, 0) y hb]
  exact (cell_setRow_same _ b 1 _ _ t (0, 0) hb).trans rfl
theorem three_boxes {w w1 : World} {c1 c2 c3 : Array Value} {t1 t2 t3 : Nat} (hb : Below (((w.alloc (.cells c1 t1)).alloc (.cells c2 t2)).alloc (.cells c3 t3)).heap.size (((w.alloc (.cells c1 t1)).alloc (.cells c2 t2)).alloc (.cells c3 t3)) w1) :
    Below w.heap.size w w1 ∧ w1.heap[w.heap.size]? = some (.cells c1 t1 (0, 0)) ∧ w1.heap[w.heap.size + 1]? = some (.cells c2 t2 (0, 0)) ∧ w1.heap[w.heap.size + 1 + 1]? = some (.cells c3 t3 (0, 0)) := by
  obtain ⟨h1, h2, h3⟩ := two_boxes hb
  rw [show (w.alloc (.cells c1 t1)).heap.size = w.heap.size + 1 by simp] at h2 h3
  have e1 := heap_alloc_new w (.cells c1 t1)
  have hb1 : Below (w.alloc (.cells c1 t1)).heap.size (w.alloc (.cells c1 t1)) w1 := h1
  exact ⟨below_of1 hb1, (hb1.block _ (lt_of_some e1)).trans e1, h2, h3⟩
def RA (A : Option Addr) (c : Nat) : Prop := (A = none ∧ c = 0) ∨ ∃ b, A = some ⟨b, 0, none⟩
def RMkRet (A : Option Addr) (c : Nat) (w : World) (R : TS × Int × Int) (e : Ending) (w' : World) : Prop :=
  ∃ A' c', e = .returned (.tuple #[.agg #[.int .i64 R.1.width, .slice A' R.1.nodes.length c'], .int .i64 R.2.1, .int .i64 R.2.2]) ∧ SlT w' A' c' R.1.nodes ∧ ((A' = A ∧ c' = c) ∨ ∃ g, A' = some ⟨g, 0, none⟩ ∧ w.heap.size ≤ g ∧ g < w'.heap.size) ∧ Below w.heap.size w w'
set_option maxRecDepth 100000 in
set_option maxHeartbeats 4000000 in
theorem rmake_nil {wd : Int} {w : World} (hw : TWf ⟨wd, []⟩) (t : Tm) :
    Calls Try.prog 88 #[.agg #[.int .i64 wd, .slice none 0 0], tagg t] w (RMkRet none 0 w (makeF ⟨wd, []⟩ t)) := by
  have hs0 : ∀ w : World, SlT w none 0 [] := fun w => ⟨Nat.le_refl _, by omega, fun h => absurd h (by simp)⟩
  have hra := fun (w' : World) => right_any (T := ⟨wd, []⟩) (hs0 w') (op_bounds hw) t
  obtain ⟨ft, hft⟩ : ∃ b, fitsT ⟨wd, []⟩ t = b := ⟨_, rfl⟩
  rw [hft] at hra
  have HRA := Lib.hid hra
  have HFT := Lib.hid hft
  have HS0 := Lib.hid hs0
  clear hra hft hs0
  obtain ⟨op, v, x0, x1, x2⟩ := t
  unfold tagg at HRA ⊢
  dsimp only [List.length_nil] at HRA ⊢
  cases ft with
  | false =>
    have HM : Hid (makeF ⟨wd, []⟩ ⟨op, v, x0, x1, x2⟩ = (⟨wd, []⟩, 0, 1)) := if_neg (by rw [HFT.out]; simp)
    go_enter Try.func88, Try.ntmps88
    go_wp2_with (go_at_call 136; go_must (refine (HRA.out _).mono ?_; rintro e w1 ⟨rfl, hb1⟩; obtain ⟨hbw, hk2, hk3, hk4⟩ := three_boxes hb1; have HBW := Lib.hid hbw; have HK4 := Lib.hid hk4; have kt : w1.cell? ⟨w.heap.size, 1, none⟩ = some (.slice none 0 0) := (by simp [World.cell?, hk2]); have kw : w1.cell? ⟨w.heap.size, 0, none⟩ = some (.int .i64 wd) := (by simp [World.cell?, hk2]); have r0 : w1.cell? ⟨w.heap.size + 1 + 1, 0, none⟩ = some (.int .i64 0) := (by simp [World.cell?, hk4]); have r1 : w1.cell? ⟨w.heap.size + 1 + 1, 1, none⟩ = some (.slice none 0 0) := (by simp [World.cell?, hk4]); have f0 : ∀ o, w1.frozen? ⟨w.heap.size + 1 + 1, o, none⟩ = false := (by simp [World.frozen?, hk4]); clear hb1 hbw hk2 hk3 hk4))
    refine bodyPost_ret (results_cell2 rfl rfl (loadVar66 (two_set _ _ HK4.out).1 (two_set _ _ HK4.out).2)) rfl ?_
    rw [HM.out]
    have hb9 : ∀ u u', Below w.heap.size w ((w1.setCell ⟨w.heap.size + 1 + 1, 0, none⟩ u).setCell ⟨w.heap.size + 1 + 1, 1, none⟩ u') := fun u u' => (HBW.out.setCell (by simp; omega) u).setCell (by simp; omega) u'
    exact ⟨none, 0, rfl, HS0.out _, .inl ⟨rfl, rfl⟩, hb9 _ _⟩
  | true =>
    have HM : Hid (makeF ⟨wd, []⟩ ⟨op, v, x0, x1, x2⟩ = (⟨wd, [⟨op, v, x0, x1, x2⟩]⟩, 0, 0)) := by show _ = _; unfold makeF; rw [if_pos HFT.out]; rfl
    go_enter Try.func88, Try.ntmps88
    go_wp2_with (go_at_call 136; go_must (refine (HRA.out _).mono ?_; rintro e w1 ⟨rfl, hb1⟩; obtain ⟨hbw, hk2, hk3, hk4⟩ := three_boxes hb1; have HBW := Lib.hid hbw; have HK2 := Lib.hid hk2; have HK3 := Lib.hid hk3; have HK4 := Lib.hid hk4; clear hb1 hbw hk2 hk3 hk4))
    clear HRA
    go_loopw [7] (fun u wr => u = .int .i64 0 ∧ Below w1.heap.size w1 wr) (fun u _ => 0)
    case atStart => exact ⟨rfl, Below.refl _ _⟩
    case round =>
      obtain ⟨rfl, hbr⟩ := hrel
      rename_i wr
      have HBZ : Hid (Below w.heap.size w wr) := HBW.out.trans (hbr.mono HBW.out.size)
      have b2 := (hbr.block _ (lt_of_some HK2.out)).trans HK2.out
      have b3 := (hbr.block _ (lt_of_some HK3.out)).trans HK3.out
      have b4 := (hbr.block _ (lt_of_some HK4.out)).trans HK4.out
      have HB2 := Lib.hid b2
      have HB4 := Lib.hid b4
      have kt : wr.cell? ⟨w.heap.size, 1, none⟩ = some (.slice none 0 0) := by simp [World.cell?, b2]
      have kw : wr.cell? ⟨w.heap.size, 0, none⟩ = some (.int .i64 wd) := by simp [World.cell?, b2]
      have k0 : wr.cell? ⟨w.heap.size + 1, 0, none⟩ = some (.int .i64 op) := by simp [World.cell?, b3]
      have k1 : wr.cell? ⟨w.heap.size + 1, 1, none⟩ = some (.int .i64 v) := by simp [World.cell?, b3]
      have k2 : wr.cell? ⟨w.heap.size + 1, 2, none⟩ = some (.int .i64 x0) := by simp [World.cell?, b3]
      have k3 : wr.cell? ⟨w.heap.size + 1, 3, none⟩ = some (.int .i64 x1) := by simp [World.cell?, b3]
      have k4 : wr.cell? ⟨w.heap.size + 1, 4, none⟩ = some (.int .i64 x2) := by simp [World.cell?, b3]
      clear hbr b2 b3 b4
      obtain ⟨i0, hi0, hz0, hz1, hz2⟩ := info_parts Try.info84
      go_wp2
      have AL : Hid (∀ (q : Addr) (u : Value), wr.cell? q = some u → ((wr.alloc (.cells #[.int .i64 op, .int .i64 v, .int .i64 x0, .int .i64 x1, .int .i64 x2] 84)).drew).cell? q = some u) := fun q u h => (World.cell?_alloc_lt wr _ q (World.block_lt_of_cell? wr q h)).trans h
      refine wp_region_G [10, 11, 13] [(1, fun w' => w'.cell? ⟨w.heap.size, 1, none⟩ = some (.slice none 0 0)), (3, fun w' => w'.cell? ⟨w.heap.size, 1, none⟩ = some (.slice none 0 0)), (6, fun w' => w'.cell? ⟨w.heap.size, 1, none⟩ = some (.slice none 0 0)), (9, fun w' => w'.cell? ⟨w.heap.size + 1, 0, none⟩ = some (.int .i64 op) ∧ w'.cell? ⟨w.heap.size + 1, 1, none⟩ = some (.int .i64 v) ∧ w'.cell? ⟨w.heap.size + 1, 2, none⟩ = some (.int .i64 x0) ∧ w'.cell? ⟨w.heap.size + 1, 3, none⟩ = some (.int .i64 x1) ∧ w'.cell? ⟨w.heap.size + 1, 4, none⟩ = some (.int .i64 x2))] (by kernel_rfl) ?_
      refine wpG_take (i := 0) (v := ?_) rfl (by kernel_rfl) rfl (by kernel_rfl) (by kernel_rfl) (fun _ _ _ h => h) (by rfl) ?_ (asks_none rfl _) ?_
      rotate_left
      · intro w _; go_simp; rfl
      simp only [Act.put, List.getElem_toArray, List.getElem_cons_zero, List.getElem_cons_succ, List.setIfInBounds_toArray, List.set_cons_zero, List.set_cons_succ]
      refine wpG_take (i := 1) (v := ?_) rfl (by kernel_rfl) rfl (by kernel_rfl) (by kernel_rfl) (fun _ _ _ h => h) (by rfl) ?_ (by simp [asksOf]; exact kt) ?_
      rotate_left
      · intro w hw; simp [asksOf] at hw; go_simp; rfl
      simp only [Act.put, List.getElem_toArray, List.getElem_cons_zero, List.getElem_cons_succ, List.setIfInBounds_toArray, List.set_cons_zero, List.set_cons_succ]
      refine wpG_take (i := 2) (v := ?_) rfl (by kernel_rfl) rfl (by kernel_rfl) (by kernel_rfl) (fun _ _ _ h => h) (by rfl) ?_ (asks_none rfl _) ?_
      rotate_left
      · intro w _; go_simp; rfl
      simp only [Act.put, List.getElem_toArray, List.getElem_cons_zero, List.getElem_cons_succ, List.setIfInBounds_toArray, List.set_cons_zero, List.set_cons_succ]
      refine wpG_take (i := 3) (v := ?_) rfl (by kernel_rfl) rfl (by kernel_rfl) (by kernel_rfl) (fun _ _ _ h => h) (by rfl) ?_ (by simp [asksOf]; exact kt) ?_
      rotate_left
      · intro w hw; simp [asksOf] at hw; go_simp; rfl
      simp only [Act.put, List.getElem_toArray, List.getElem_cons_zero, List.getElem_cons_succ, List.setIfInBounds_toArray, List.set_cons_zero, List.set_cons_succ]
      refine wpG_take (i := 4) (v := ?_) rfl (by kernel_rfl) rfl (by kernel_rfl) (by kernel_rfl) (fun _ _ _ h => h) (by rfl) ?_ (asks_none rfl _) ?_
      rotate_left
      · intro w _; go_simp; rfl
      simp only [Act.put, List.getElem_toArray, List.getElem_cons_zero, List.getElem_cons_succ, List.setIfInBounds_toArray, List.set_cons_zero, List.set_cons_succ]
      refine wpG_take (i := 5) (v := ?_) rfl (by kernel_rfl) rfl (by kernel_rfl) (by kernel_rfl) (fun _ _ _ h => h) (by rfl) ?_ (asks_none rfl _) ?_
      rotate_left
      · intro w _; go_simp; rfl
      simp only [Act.put, List.getElem_toArray, List.getElem_cons_zero, List.getElem_cons_succ, List.setIfInBounds_toArray, List.set_cons_zero, List.set_cons_succ]
      refine wpG_take (i := 6) (v := ?_) rfl (by kernel_rfl) rfl (by kernel_rfl) (by kernel_rfl) (fun _ _ _ h => h) (by rfl) ?_ (by simp [asksOf]; exact kt) ?_
      rotate_left
      · intro w hw; simp [asksOf] at hw; go_simp; rfl
      simp only [Act.put, List.getElem_toArray, List.getElem_cons_zero, List.getElem_cons_succ, List.setIfInBounds_toArray, List.set_cons_zero, List.set_cons_succ]
      refine wpG_take (i := 7) (v := ?_) rfl (by kernel_rfl) rfl (by kernel_rfl) (by kernel_rfl) (fun _ _ _ h => h) (by rfl) ?_ (asks_none rfl _) ?_
      rotate_left
      · intro w _; go_simp; rfl
      simp only [Act.put, List.getElem_toArray, List.getElem_cons_zero, List.getElem_cons_succ, List.setIfInBounds_toArray, List.set_cons_zero, List.set_cons_succ]
      refine wpG_take (i := 8) (v := ?_) rfl (by kernel_rfl) rfl (by kernel_rfl) (by kernel_rfl) (fun _ _ _ h => h) (by rfl) ?_ (asks_none rfl _) ?_
      rotate_left
      · intro w _; go_simp; rfl
      simp only [Act.put, List.getElem_toArray, List.getElem_cons_zero, List.getElem_cons_succ, List.setIfInBounds_toArray, List.set_cons_zero, List.set_cons_succ]
      refine wpG_take (i := 9) (v := ?_) rfl (by kernel_rfl) rfl (by kernel_rfl) (by kernel_rfl) (fun _ _ _ h => h) (by rfl) ?_ (by simp [asksOf]; exact ⟨k0, k1, k2, k3, k4⟩) ?_
      rotate_left
      · intro w hw; simp [asksOf] at hw; obtain ⟨hw0, hw1, hw2, hw3, hw4⟩ := hw; go_simp; rfl
      simp only [Act.put, List.getElem_toArray, List.getElem_cons_zero, List.getElem_cons_succ, List.setIfInBounds_toArray, List.set_cons_zero, List.set_cons_succ]
      refine wpG_loud (i := 10) rfl rfl rfl (by kernel_rfl) (fun K hK => ?_)
      go_simp
      refine hK _ _ ?_ ?_
      · intro q hq hwt; simp only [List.mem_cons, List.not_mem_nil, or_false] at hq; rcases hq with rfl | rfl | rfl | rfl
        · exact AL.out _ _ kt
        · exact AL.out _ _ kt
        · exact AL.out _ _ kt
        · exact Bool.noConfusion (hwt.symm.trans (show _ = true from by kernel_rfl))
      clear hK K
      try simp only [Act.put, List.getElem_toArray, List.getElem_cons_zero, List.getElem_cons_succ, List.setIfInBounds_toArray, List.set_cons_zero, List.set_cons_succ]
      refine wpG_loud (i := 11) rfl rfl rfl (by kernel_rfl) (fun K hK => ?_)
      refine wp_append_grows ((wr.alloc (.cells #[.int .i64 op, .int .i64 v, .int .i64 x0, .int .i64 x1, .int .i64 x2] 84)).drew) _ _ _ (by rfl) 84 i0 _ 5 40 Try.underlying62 hi0 hz0 hz1 hz2 rfl (by omega) none 0 0 [] (by rfl) ?a1 rfl ?a2 ⟨wr.heap.size, 0, none⟩ 1 1 [.int .i64 op, .int .i64 v, .int .i64 x0, .int .i64 x1, .int .i64 x2] (by rfl) rfl (World.news_of_block (cs := #[.int .i64 op, .int .i64 v, .int .i64 x0, .int .i64 x1, .int .i64 x2]) (t := 84) (fr := (0, 0)) (heap_alloc_new wr _)) (by simp [Value.oneCell']) (by omega) ?b1 ?b2 ?_
      case a1 => exact fun _ => ⟨rfl, rfl⟩
      case a2 => exact fun b hb => by cases hb
      case b1 => unfold maxLen; omega
      case b2 => omega
      intro v9 w3 hown3 hgrow
      have HB3' : Hid (Below wr.heap.size wr w3) := ((below_drewN (below_alloc wr (.cells #[.int .i64 op, .int .i64 v, .int .i64 x0, .int .i64 x1, .int .i64 x2] 84)) 1).grown hgrow (by simp) (fun q hq => by cases hq))
      obtain ⟨g3, cap3, rfl, hg3⟩ := own_shape2 hown3 (by omega)
      have HOWN3 := Lib.hid hown3
      have q1 := (HB3'.out.cell (cell_lt kt)).trans kt
      have s0 := (HB3'.out.cell (cell_lt k0)).trans k0
      have s1 := (HB3'.out.cell (cell_lt k1)).trans k1
      have s2 := (HB3'.out.cell (cell_lt k2)).trans k2
      have s3 := (HB3'.out.cell (cell_lt k3)).trans k3
      have s4 := (HB3'.out.cell (cell_lt k4)).trans k4
      have qf : w3.frozen? ⟨w.heap.size, 1, none⟩ = false := by have := (HB3'.out.block _ (lt_of_some HB2.out)).trans HB2.out; simp [World.frozen?, this]
      clear hgrow hown3
      refine hK _ _ ?_ ?_
      · intro q hq hwt; simp only [List.mem_cons, List.not_mem_nil, or_false] at hq; rcases hq with rfl | rfl | rfl | rfl
        · exact q1
        · exact q1
        · exact q1
        · exact ⟨s0, s1, s2, s3, s4⟩
      clear hK K
      try simp only [Act.put, List.getElem_toArray, List.getElem_cons_zero, List.getElem_cons_succ, List.setIfInBounds_toArray, List.set_cons_zero, List.set_cons_succ]
      refine wpG_take (i := 12) (v := ?_) rfl (by kernel_rfl) rfl (by kernel_rfl) (by kernel_rfl) (fun _ _ _ h => h) (by rfl) ?_ (asks_none rfl _) ?_
      rotate_left
      · intro w _; go_simp; rfl
      simp only [Act.put, List.getElem_toArray, List.getElem_cons_zero, List.getElem_cons_succ, List.setIfInBounds_toArray, List.set_cons_zero, List.set_cons_succ]
      refine wpG_loud (i := 13) rfl rfl rfl (by kernel_rfl) (fun K hK => ?_)
      go_simp
      refine hK _ _ ?_ ?_
      · intro q hq hwt; simp only [List.mem_cons, List.not_mem_nil, or_false] at hq; rcases hq with rfl | rfl | rfl | rfl
        · exact Bool.noConfusion (hwt.symm.trans (show _ = true from by kernel_rfl))
        · exact Bool.noConfusion (hwt.symm.trans (show _ = true from by kernel_rfl))
        · exact Bool.noConfusion (hwt.symm.trans (show _ = true from by kernel_rfl))
        · exact Bool.noConfusion (hwt.symm.trans (show _ = true from by kernel_rfl))
      clear hK K
      try simp only [Act.put, List.getElem_toArray, List.getElem_cons_zero, List.getElem_cons_succ, List.setIfInBounds_toArray, List.set_cons_zero, List.set_cons_succ]
      refine wpG_done (by kernel_rfl) ?_
      go_wp2
      have hzr := HBZ.out.size
      have hlt4 := lt_of_some HB4.out
      simp at hg3
      have hsl3 : SlT w3 (some ⟨g3, 0, none⟩) cap3 ([] ++ [⟨op, v, x0, x1, x2⟩]) := slT_own HOWN3.out
      have HSL9 : Hid (∀ u u' u'', SlT (((w3.setCell ⟨w.heap.size, 1, none⟩ u).setCell ⟨w.heap.size + 1 + 1, 0, none⟩ u').setCell ⟨w.heap.size + 1 + 1, 1, none⟩ u'') (some ⟨g3, 0, none⟩) cap3 ([] ++ [⟨op, v, x0, x1, x2⟩])) := fun _ _ _ => ((hsl3.set (by omega)).set (by omega)).set (by omega)
      have HBL9 : Hid (∀ u u' u'', Below w.heap.size w (((w3.setCell ⟨w.heap.size, 1, none⟩ u).setCell ⟨w.heap.size + 1 + 1, 0, none⟩ u').setCell ⟨w.heap.size + 1 + 1, 1, none⟩ u'')) := fun _ _ _ => (((HBZ.out.trans (HB3'.out.mono HBZ.out.size)).setCell (by simp) _).setCell (by simp; omega) _).setCell (by simp; omega) _
      have h4y := (Below.heap_setCell w3 ⟨w.heap.size, 1, none⟩ (.slice (some ⟨g3, 0, none⟩) 1 cap3) (w.heap.size + 1 + 1) (by simp; omega)).trans ((HB3'.out.block _ hlt4).trans HB4.out)
      have hw0 := (HB3'.out.cell (cell_lt kw)).trans kw
      have y0 : (w3.setCell ⟨w.heap.size, 1, none⟩ (.slice (some ⟨g3, 0, none⟩) 1 cap3)).cell? ⟨w.heap.size, 0, none⟩ = some (.int .i64 wd) := (World.cell?_setCell_other w3 _ _ _ (by simp)).trans hw0
      have y1 : (w3.setCell ⟨w.heap.size, 1, none⟩ (.slice (some ⟨g3, 0, none⟩) 1 cap3)).cell? ⟨w.heap.size, 1, none⟩ = some (.slice (some ⟨g3, 0, none⟩) 1 cap3) := one_set _ ((HB3'.out.block _ (lt_of_some HB2.out)).trans HB2.out)
      have HL9 := Lib.hid (HSL9.out (.slice (some ⟨g3, 0, none⟩) 1 cap3))
      have HB9' := Lib.hid (HBL9.out (.slice (some ⟨g3, 0, none⟩) 1 cap3))
      have hgl3 : g3 < (w3.setCell ⟨w.heap.size, 1, none⟩ (.slice (some ⟨g3, 0, none⟩) 1 cap3)).heap.size := by have := (World.ownsRow.lt HOWN3.out g3 rfl).2; simp [World.setCell]; omega
      obtain ⟨wy, hwy⟩ : ∃ wy : World, w3.setCell ⟨w.heap.size, 1, none⟩ (.slice (some ⟨g3, 0, none⟩) 1 cap3) = wy := ⟨_, rfl⟩
      rw [hwy] at hgl3 HL9 HB9' h4y y0 y1 ⊢
      clear hwy hw0 hsl3 HSL9 HBL9 HOWN3 qf q1 s0 s1 s2 s3 s4 k0 k1 k2 k3 k4 kt kw
      have r0y : wy.cell? ⟨w.heap.size + 1 + 1, 0, none⟩ = some (.int .i64 0) := by simp [World.cell?, h4y]
      have r1y : wy.cell? ⟨w.heap.size + 1 + 1, 1, none⟩ = some (.slice none 0 0) := by simp [World.cell?, h4y]
      have f0y : ∀ o, wy.frozen? ⟨w.heap.size + 1 + 1, o, none⟩ = false := by simp [World.frozen?, h4y]
      have H4Y := Lib.hid h4y
      clear h4y
      have OTH : Hid (∀ u u', ((wy.setCell ⟨w.heap.size + 1 + 1, 0, none⟩ u).setCell ⟨w.heap.size + 1 + 1, 1, none⟩ u').cell? ⟨w.heap.size, 1, none⟩ = some (.slice (some ⟨g3, 0, none⟩) 1 cap3)) := fun _ _ => (World.cell?_setCell_other _ _ _ _ (by first | (simp; done) | (simp; omega))).trans ((World.cell?_setCell_other _ _ _ _ (by first | (simp; done) | (simp; omega))).trans y1)
      refine wp_region_G [5] [(0, fun w' => w'.cell? ⟨w.heap.size, 0, none⟩ = some (.int .i64 wd) ∧ w'.cell? ⟨w.heap.size, 1, none⟩ = some (.slice (some ⟨g3, 0, none⟩) 1 cap3)), (2, fun w' => w'.cell? ⟨w.heap.size, 1, none⟩ = some (.slice (some ⟨g3, 0, none⟩) 1 cap3))] (by kernel_rfl) ?_
      refine wpG_take (i := 0) (v := ?_) rfl (by kernel_rfl) rfl (by kernel_rfl) (by kernel_rfl) (fun _ _ _ h => h) (by rfl) ?_ (by simp [asksOf]; exact ⟨y0, y1⟩) ?_
      rotate_left
      · intro w hw; simp [asksOf] at hw; obtain ⟨hw0, hw1⟩ := hw; go_simp; rfl
      simp only [Act.put, List.getElem_toArray, List.getElem_cons_zero, List.getElem_cons_succ, List.setIfInBounds_toArray, List.set_cons_zero, List.set_cons_succ]
      refine wpG_take (i := 1) (v := ?_) rfl (by kernel_rfl) rfl (by kernel_rfl) (by kernel_rfl) (fun _ _ _ h => h) (by rfl) ?_ (asks_none rfl _) ?_
      rotate_left
      · intro w _; go_simp; rfl
      simp only [Act.put, List.getElem_toArray, List.getElem_cons_zero, List.getElem_cons_succ, List.setIfInBounds_toArray, List.set_cons_zero, List.set_cons_succ]
      refine wpG_take (i := 2) (v := ?_) rfl (by kernel_rfl) rfl (by kernel_rfl) (by kernel_rfl) (fun _ _ _ h => h) (by rfl) ?_ (by simp [asksOf]; exact y1) ?_
      rotate_left
      · intro w hw; simp [asksOf] at hw; go_simp; rfl
      simp only [Act.put, List.getElem_toArray, List.getElem_cons_zero, List.getElem_cons_succ, List.setIfInBounds_toArray, List.set_cons_zero, List.set_cons_succ]
      refine wpG_take (i := 3) (v := ?_) rfl (by kernel_rfl) rfl (by kernel_rfl) (by kernel_rfl) (fun _ _ _ h => h) (by rfl) ?_ (asks_none rfl _) ?_
      rotate_left
      · intro w _; go_simp; rfl
      simp only [Act.put, List.getElem_toArray, List.getElem_cons_zero, List.getElem_cons_succ, List.setIfInBounds_toArray, List.set_cons_zero, List.set_cons_succ]
      refine wpG_take (i := 4) (v := ?_) rfl (by kernel_rfl) rfl (by kernel_rfl) (by kernel_rfl) (fun _ _ _ h => h) (by rfl) ?_ (asks_none rfl _) ?_
      rotate_left
      · intro w _; go_simp; rfl
      simp only [Act.put, List.getElem_toArray, List.getElem_cons_zero, List.getElem_cons_succ, List.setIfInBounds_toArray, List.set_cons_zero, List.set_cons_succ]
      refine wpG_loud (i := 5) rfl rfl rfl (by kernel_rfl) (fun K hK => ?_)
      go_simp
      refine hK _ _ ?_ ?_
      · intro q hq hwt; simp only [List.mem_cons, List.not_mem_nil, or_false] at hq; rcases hq with rfl | rfl
        · exact Bool.noConfusion (hwt.symm.trans (show _ = true from by kernel_rfl))
        · exact OTH.out _ _
      clear hK K
      try simp only [Act.put, List.getElem_toArray, List.getElem_cons_zero, List.getElem_cons_succ, List.setIfInBounds_toArray, List.set_cons_zero, List.set_cons_succ]
      refine wpG_take (i := 6) (v := ?_) rfl (by kernel_rfl) rfl (by kernel_rfl) (by kernel_rfl) (fun _ _ _ h => h) (by rfl) ?_ (asks_none rfl _) ?_
      rotate_left
      · intro w _; go_simp; rfl
      simp only [Act.put, List.getElem_toArray, List.getElem_cons_zero, List.getElem_cons_succ, List.setIfInBounds_toArray, List.set_cons_zero, List.set_cons_succ]
      refine wpG_take (i := 7) (v := ?_) rfl (by kernel_rfl) rfl (by kernel_rfl) (by kernel_rfl) (fun _ _ _ h => h) (by rfl) ?_ (asks_none rfl _) ?_
      rotate_left
      · intro w _; go_simp; rfl
      simp only [Act.put, List.getElem_toArray, List.getElem_cons_zero, List.getElem_cons_succ, List.setIfInBounds_toArray, List.set_cons_zero, List.set_cons_succ]
      refine wpG_done (by kernel_rfl) ?_
      go_wp2
      refine bodyPost_ret (results_cell2 rfl rfl (loadVar66 (two_set _ _ H4Y.out).1 (two_set _ _ H4Y.out).2)) rfl ?_
      rw [HM.out]
      have kwr : IntKind.i64.wrap (0 : Int) = 0 := by rw [IntKind.wrap_i64]; omega
      exact ⟨some ⟨g3, 0, none⟩, cap3, by simp [kwr], HL9.out _ _, .inr ⟨g3, rfl, by omega, by simp [World.setCell]; omega⟩, (HB9'.out _ _).drew⟩
section
variable {A : Option Addr} {c : Nat} {T : TS} {w : World}
set_option maxRecDepth 100000 in
set_option maxHeartbeats 4000000 in
theorem rmake_some {b : Nat} (hs : SlT w (some ⟨b, 0, none⟩) c T.nodes) (hw : TWf T) (t : Tm) :
    Calls Try.prog 88 #[.agg #[.int .i64 T.width, .slice (some ⟨b, 0, none⟩) T.nodes.length c], tagg t] w (RMkRet (some ⟨b, 0, none⟩) c w (makeF T t)) := by
  have hsz := hw.size
  have HS := Lib.hid hs
  have hra := fun (w' : World) (h : SlT w' (some ⟨b, 0, none⟩) c T.nodes) => right_any h (op_bounds hw) t
  obtain ⟨ft, hft⟩ : ∃ b, fitsT T t = b := ⟨_, rfl⟩
  rw [hft] at hra
  have HRA := Lib.hid hra
  have HFT := Lib.hid hft
  clear hs hra hft
  obtain ⟨op, v, x0, x1, x2⟩ := t
  have HW0 : Hid (Below w.heap.size w (((w.alloc (.cells #[.int .i64 T.width, .slice (some ⟨b, 0, none⟩) T.nodes.length c] 66)).alloc (.cells #[.int .i64 op, .int .i64 v, .int .i64 x0, .int .i64 x1, .int .i64 x2] 84)).alloc (.cells #[.int .i64 0, .slice none 0 0] 66))) := below_of2 (below_of1 (Below.refl _ _))
  unfold tagg at HRA ⊢
  dsimp only at HRA ⊢
  cases ft with
  | false =>
    have HM : Hid (makeF T ⟨op, v, x0, x1, x2⟩ = (T, 0, 1)) := if_neg (by rw [HFT.out]; simp)
    go_enter Try.func88, Try.ntmps88
    go_wp2_with (go_at_call 136; go_must (refine (HRA.out _ (HS.out.below HW0.out)).mono ?_; rintro e w1 ⟨rfl, hb1⟩; obtain ⟨hbw, hk2, hk3, hk4⟩ := three_boxes hb1; have HBW := Lib.hid hbw; have HK4 := Lib.hid hk4; have kt : w1.cell? ⟨w.heap.size, 1, none⟩ = some (.slice (some ⟨b, 0, none⟩) T.nodes.length c) := (by simp [World.cell?, hk2]); have kw : w1.cell? ⟨w.heap.size, 0, none⟩ = some (.int .i64 T.width) := (by simp [World.cell?, hk2]); have r0 : w1.cell? ⟨w.heap.size + 1 + 1, 0, none⟩ = some (.int .i64 0) := (by simp [World.cell?, hk4]); have r1 : w1.cell? ⟨w.heap.size + 1 + 1, 1, none⟩ = some (.slice none 0 0) := (by simp [World.cell?, hk4]); have f0 : ∀ o, w1.frozen? ⟨w.heap.size + 1 + 1, o, none⟩ = false := (by simp [World.frozen?, hk4]); clear hb1 hbw hk2 hk3 hk4))
    refine bodyPost_ret (results_cell2 rfl rfl (loadVar66 (two_set _ _ HK4.out).1 (two_set _ _ HK4.out).2)) rfl ?_
    rw [HM.out]
    have hb9 : ∀ u u', Below w.heap.size w ((w1.setCell ⟨w.heap.size + 1 + 1, 0, none⟩ u).setCell ⟨w.heap.size + 1 + 1, 1, none⟩ u') := fun u u' => (HBW.out.setCell (by simp; omega) u).setCell (by simp; omega) u'
    exact ⟨_, c, rfl, HS.out.below (hb9 _ _), .inl ⟨rfl, rfl⟩, hb9 _ _⟩
  | true =>
    go_enter Try.func88, Try.ntmps88
    go_wp2_with (go_at_call 136; go_must (refine (HRA.out _ (HS.out.below HW0.out)).mono ?_; rintro e w1 ⟨rfl, hb1⟩; obtain ⟨hbw, hk2, hk3, hk4⟩ := three_boxes hb1; have HBW := Lib.hid hbw; have HK2 := Lib.hid hk2; have HK3 := Lib.hid hk3; have HK4 := Lib.hid hk4; clear hb1 hbw hk2 hk3 hk4))
    clear HRA HW0
    go_loopw [7] (fun u wr => ∃ i : Nat, i ≤ T.nodes.length ∧ u = .int .i64 i ∧ (∀ j, j < i → T.nodes[j]? ≠ some ⟨op, v, x0, x1, x2⟩) ∧ Below w1.heap.size w1 wr) (fun u _ => T.nodes.length - (intOf u).toNat)
    case atStart => exact ⟨0, Nat.zero_le _, rfl, fun j hj => by omega, Below.refl _ _⟩
    case round =>
      obtain ⟨i, hi, rfl, hall, hbr⟩ := hrel
      rename_i wr
      have HALL := Lib.hid hall
      have HBR := Lib.hid hbr
      have HBZ : Hid (Below w.heap.size w wr) := HBW.out.trans (hbr.mono HBW.out.size)
      have b2 := (hbr.block _ (lt_of_some HK2.out)).trans HK2.out
      have b3 := (hbr.block _ (lt_of_some HK3.out)).trans HK3.out
      have b4 := (hbr.block _ (lt_of_some HK4.out)).trans HK4.out
      have HB2 := Lib.hid b2
      have HB3 := Lib.hid b3
      have HB4 := Lib.hid b4
      have kt : wr.cell? ⟨w.heap.size, 1, none⟩ = some (.slice (some ⟨b, 0, none⟩) T.nodes.length c) := by simp [World.cell?, b2]
      have kw : wr.cell? ⟨w.heap.size, 0, none⟩ = some (.int .i64 T.width) := by simp [World.cell?, b2]
      have k0 : wr.cell? ⟨w.heap.size + 1, 0, none⟩ = some (.int .i64 op) := by simp [World.cell?, b3]
      have k1 : wr.cell? ⟨w.heap.size + 1, 1, none⟩ = some (.int .i64 v) := by simp [World.cell?, b3]
      have k2 : wr.cell? ⟨w.heap.size + 1, 2, none⟩ = some (.int .i64 x0) := by simp [World.cell?, b3]
      have k3 : wr.cell? ⟨w.heap.size + 1, 3, none⟩ = some (.int .i64 x1) := by simp [World.cell?, b3]
      have k4 : wr.cell? ⟨w.heap.size + 1, 4, none⟩ = some (.int .i64 x2) := by simp [World.cell?, b3]
      have r0 : wr.cell? ⟨w.heap.size + 1 + 1, 0, none⟩ = some (.int .i64 0) := by simp [World.cell?, b4]
      have r1 : wr.cell? ⟨w.heap.size + 1 + 1, 1, none⟩ = some (.slice none 0 0) := by simp [World.cell?, b4]
      have f0 : ∀ o, wr.frozen? ⟨w.heap.size + 1 + 1, o, none⟩ = false := by simp [World.frozen?, b4]
      clear hall hbr b2 b3 b4
      have hb9 : ∀ w9, Below w.heap.size w w9 → ∀ u u', Below w.heap.size w ((w9.setCell ⟨w.heap.size + 1 + 1, 0, none⟩ u).setCell ⟨w.heap.size + 1 + 1, 1, none⟩ u') := fun w9 h u u' => (h.setCell (by simp; omega) u).setCell (by simp; omega) u'
      have HB9 := Lib.hid hb9
      clear hb9
      by_cases hlt : i < T.nodes.length
      · have hltI : (i : Int) < (T.nodes.length : Int) := by omega
        have hix : T.nodes[i]? = some T.nodes[i] := List.getElem?_eq_getElem hlt
        obtain ⟨t', ht'⟩ : ∃ t', T.nodes[i] = t' := ⟨_, rfl⟩
        rw [ht'] at hix
        obtain ⟨bb, ob, hA, hcell⟩ := (HS.out.below HBZ.out).2.2 (by omega)
        obtain ⟨n0, n1, n2, n3, n4⟩ := hcell i t' hix
        cases hA
        simp only [Nat.zero_add] at n0 n1 n2 n3 n4
        have HIX := Lib.hid hix
        clear hcell hix ht'
        by_cases heq : t' = ⟨op, v, x0, x1, x2⟩
        · have HM : Hid (makeF T ⟨op, v, x0, x1, x2⟩ = (T, (i : Int), 0)) := by
            show _ = _
            unfold makeF
            rw [if_pos HFT.out]
            have : T.nodes.findIdx? (· == (⟨op, v, x0, x1, x2⟩ : Tm)) = some i := find_of_nodup hw.nodup (by rw [HIX.out, heq])
            rw [this]
          have hrun : ∀ w, (binOp .eql 84 (.agg #[.int .i64 t'.op, .int .i64 t'.v, .int .i64 t'.a, .int .i64 t'.b, .int .i64 t'.c]) (.agg #[.int .i64 op, .int .i64 v, .int .i64 x0, .int .i64 x1, .int .i64 x2])).run Try.prog w = .ok (.bool true) w := fun w => by
            have := run_eql84 t' ⟨op, v, x0, x1, x2⟩ w
            rw [decide_eq_true heq] at this
            exact this
          clear heq
          go_wp2
          go_quiet (fail)
          clear hrun
          go_wp2
          refine bodyPost_ret (results_cell2 rfl rfl (loadVar66 (two_set _ _ HB4.out).1 (two_set _ _ HB4.out).2)) rfl ?_
          rw [HM.out]
          exact ⟨_, c, rfl, HS.out.below (HB9.out _ (below_drewN HBZ.out nq) _ _), .inl ⟨rfl, rfl⟩, HB9.out _ (below_drewN HBZ.out nq) _ _⟩
        · have hrun : ∀ w, (binOp .eql 84 (.agg #[.int .i64 t'.op, .int .i64 t'.v, .int .i64 t'.a, .int .i64 t'.b, .int .i64 t'.c]) (.agg #[.int .i64 op, .int .i64 v, .int .i64 x0, .int .i64 x1, .int .i64 x2])).run Try.prog w = .ok (.bool false) w := fun w => by
            have := run_eql84 t' ⟨op, v, x0, x1, x2⟩ w
            rw [decide_eq_false heq] at this
            exact this
          have HNE := Lib.hid heq
          clear heq
          go_wp2
          go_quiet (fail)
          clear hrun
          go_wp2
          go_roundw
          case rel => exact ⟨i + 1, by omega, by go_num, fun j hj => by
            by_cases e : j = i
            · subst e; rw [HIX.out]; exact fun h => HNE.out (Option.some.inj h)
            · exact HALL.out j (by omega), below_drewN HBR.out nq⟩
          case measure => simp [intOf]; omega
      · obtain rfl : i = T.nodes.length := by omega
        have hfi : T.nodes.findIdx? (· == (⟨op, v, x0, x1, x2⟩ : Tm)) = none := by
          rw [List.findIdx?_eq_none_iff]
          intro x hx
          obtain ⟨j, hj⟩ := List.getElem?_of_mem hx
          have := HALL.out j (List.getElem?_eq_some_iff.1 hj).1
          rw [beq_eq_false_iff_ne]
          intro e; subst e; exact this hj
        by_cases hge : 16384 ≤ T.nodes.length
        · have HM : Hid (makeF T ⟨op, v, x0, x1, x2⟩ = (T, 0, 8)) := by show _ = _; unfold makeF; rw [if_pos HFT.out, hfi]; exact if_pos hge
          have d1 : decide ((T.nodes.length : Int) ≥ 16384) = true := decide_eq_true (by omega)
          have d2 : decide (16384 ≤ T.nodes.length) = true := decide_eq_true hge
          clear hfi hge
          go_wp2
          refine bodyPost_ret (results_cell2 rfl rfl (loadVar66 (two_set _ _ HB4.out).1 (two_set _ _ HB4.out).2)) rfl ?_
          rw [HM.out]
          exact ⟨_, c, rfl, HS.out.below (HB9.out _ HBZ.out _ _), .inl ⟨rfl, rfl⟩, HB9.out _ HBZ.out _ _⟩
        · have HM : Hid (makeF T ⟨op, v, x0, x1, x2⟩ = (⟨T.width, T.nodes ++ [⟨op, v, x0, x1, x2⟩]⟩, (T.nodes.length : Int), 0)) := by show _ = _; unfold makeF; rw [if_pos HFT.out, hfi]; exact if_neg hge
          have d1 : decide ((T.nodes.length : Int) ≥ 16384) = false := decide_eq_false (by omega)
          have d2 : decide (16384 ≤ T.nodes.length) = false := decide_eq_false hge
          clear hfi
          have hnc : T.nodes.length ≤ c := HS.out.1
          have hncI : (T.nodes.length : Int) ≤ (c : Int) := by omega
          obtain ⟨i0, hi0, hz0, hz1, hz2⟩ := info_parts Try.info84
          go_wp2
          have AL : Hid (∀ (q : Addr) (u : Value), wr.cell? q = some u → ((wr.alloc (.cells #[.int .i64 op, .int .i64 v, .int .i64 x0, .int .i64 x1, .int .i64 x2] 84)).drew).cell? q = some u) := fun q u h => (World.cell?_alloc_lt wr _ q (World.block_lt_of_cell? wr q h)).trans h
          refine wp_region_G [10, 11, 13] [(1, fun w' => w'.cell? ⟨w.heap.size, 1, none⟩ = some (.slice (some ⟨b, 0, none⟩) T.nodes.length c)), (3, fun w' => w'.cell? ⟨w.heap.size, 1, none⟩ = some (.slice (some ⟨b, 0, none⟩) T.nodes.length c)), (6, fun w' => w'.cell? ⟨w.heap.size, 1, none⟩ = some (.slice (some ⟨b, 0, none⟩) T.nodes.length c)), (9, fun w' => w'.cell? ⟨w.heap.size + 1, 0, none⟩ = some (.int .i64 op) ∧ w'.cell? ⟨w.heap.size + 1, 1, none⟩ = some (.int .i64 v) ∧ w'.cell? ⟨w.heap.size + 1, 2, none⟩ = some (.int .i64 x0) ∧ w'.cell? ⟨w.heap.size + 1, 3, none⟩ = some (.int .i64 x1) ∧ w'.cell? ⟨w.heap.size + 1, 4, none⟩ = some (.int .i64 x2))] (by kernel_rfl) ?_
          refine wpG_take (i := 0) (v := ?_) rfl (by kernel_rfl) rfl (by kernel_rfl) (by kernel_rfl) (fun _ _ _ h => h) (by rfl) ?_ (asks_none rfl _) ?_
          rotate_left
          · intro w _; go_simp; rfl
          simp only [Act.put, List.getElem_toArray, List.getElem_cons_zero, List.getElem_cons_succ, List.setIfInBounds_toArray, List.set_cons_zero, List.set_cons_succ]
          refine wpG_take (i := 1) (v := ?_) rfl (by kernel_rfl) rfl (by kernel_rfl) (by kernel_rfl) (fun _ _ _ h => h) (by rfl) ?_ (by simp [asksOf]; exact kt) ?_
          rotate_left
          · intro w hw; simp [asksOf] at hw; go_simp; rfl
          simp only [Act.put, List.getElem_toArray, List.getElem_cons_zero, List.getElem_cons_succ, List.setIfInBounds_toArray, List.set_cons_zero, List.set_cons_succ]
          refine wpG_take (i := 2) (v := ?_) rfl (by kernel_rfl) rfl (by kernel_rfl) (by kernel_rfl) (fun _ _ _ h => h) (by rfl) ?_ (asks_none rfl _) ?_
          rotate_left
          · intro w _; go_simp; rfl
          simp only [Act.put, List.getElem_toArray, List.getElem_cons_zero, List.getElem_cons_succ, List.setIfInBounds_toArray, List.set_cons_zero, List.set_cons_succ]
          refine wpG_take (i := 3) (v := ?_) rfl (by kernel_rfl) rfl (by kernel_rfl) (by kernel_rfl) (fun _ _ _ h => h) (by rfl) ?_ (by simp [asksOf]; exact kt) ?_
          rotate_left
          · intro w hw; simp [asksOf] at hw; go_simp; rfl
          simp only [Act.put, List.getElem_toArray, List.getElem_cons_zero, List.getElem_cons_succ, List.setIfInBounds_toArray, List.set_cons_zero, List.set_cons_succ]
          refine wpG_take (i := 4) (v := ?_) rfl (by kernel_rfl) rfl (by kernel_rfl) (by kernel_rfl) (fun _ _ _ h => h) (by rfl) ?_ (asks_none rfl _) ?_
          rotate_left
          · intro w _; go_simp; rfl
          simp only [Act.put, List.getElem_toArray, List.getElem_cons_zero, List.getElem_cons_succ, List.setIfInBounds_toArray, List.set_cons_zero, List.set_cons_succ]
          refine wpG_take (i := 5) (v := ?_) rfl (by kernel_rfl) rfl (by kernel_rfl) (by kernel_rfl) (fun _ _ _ h => h) (by rfl) ?_ (asks_none rfl _) ?_
          rotate_left
          · intro w _; go_simp; rfl
          simp only [Act.put, List.getElem_toArray, List.getElem_cons_zero, List.getElem_cons_succ, List.setIfInBounds_toArray, List.set_cons_zero, List.set_cons_succ]
          refine wpG_take (i := 6) (v := ?_) rfl (by kernel_rfl) rfl (by kernel_rfl) (by kernel_rfl) (fun _ _ _ h => h) (by rfl) ?_ (by simp [asksOf]; exact kt) ?_
          rotate_left
          · intro w hw; simp [asksOf] at hw; go_simp; rfl
          simp only [Act.put, List.getElem_toArray, List.getElem_cons_zero, List.getElem_cons_succ, List.setIfInBounds_toArray, List.set_cons_zero, List.set_cons_succ]
          refine wpG_take (i := 7) (v := ?_) rfl (by kernel_rfl) rfl (by kernel_rfl) (by kernel_rfl) (fun _ _ _ h => h) (by rfl) ?_ (asks_none rfl _) ?_
          rotate_left
          · intro w _; go_simp; rfl
          simp only [Act.put, List.getElem_toArray, List.getElem_cons_zero, List.getElem_cons_succ, List.setIfInBounds_toArray, List.set_cons_zero, List.set_cons_succ]
          refine wpG_take (i := 8) (v := ?_) rfl (by kernel_rfl) rfl (by kernel_rfl) (by kernel_rfl) (fun _ _ _ h => h) (by rfl) ?_ (asks_none rfl _) ?_
          rotate_left
          · intro w _; go_simp; rfl
          simp only [Act.put, List.getElem_toArray, List.getElem_cons_zero, List.getElem_cons_succ, List.setIfInBounds_toArray, List.set_cons_zero, List.set_cons_succ]
          refine wpG_take (i := 9) (v := ?_) rfl (by kernel_rfl) rfl (by kernel_rfl) (by kernel_rfl) (fun _ _ _ h => h) (by rfl) ?_ (by simp [asksOf]; exact ⟨k0, k1, k2, k3, k4⟩) ?_
          rotate_left
          · intro w hw; simp [asksOf] at hw; obtain ⟨hw0, hw1, hw2, hw3, hw4⟩ := hw; go_simp; rfl
          simp only [Act.put, List.getElem_toArray, List.getElem_cons_zero, List.getElem_cons_succ, List.setIfInBounds_toArray, List.set_cons_zero, List.set_cons_succ]
          refine wpG_loud (i := 10) rfl rfl rfl (by kernel_rfl) (fun K hK => ?_)
          go_simp
          refine hK _ _ ?_ ?_
          · intro q hq hwt; simp only [List.mem_cons, List.not_mem_nil, or_false] at hq; rcases hq with rfl | rfl | rfl | rfl
            · exact AL.out _ _ kt
            · exact AL.out _ _ kt
            · exact AL.out _ _ kt
            · exact Bool.noConfusion (hwt.symm.trans (show _ = true from by kernel_rfl))
          clear hK K
          try simp only [Act.put, List.getElem_toArray, List.getElem_cons_zero, List.getElem_cons_succ, List.setIfInBounds_toArray, List.set_cons_zero, List.set_cons_succ]
          refine wpG_loud (i := 11) rfl rfl rfl (by kernel_rfl) (fun K hK => ?_)
          refine wp_append_grows ((wr.alloc (.cells #[.int .i64 op, .int .i64 v, .int .i64 x0, .int .i64 x1, .int .i64 x2] 84)).drew) _ _ _ (by rfl) 84 i0 _ 5 40 Try.underlying62 hi0 hz0 hz1 hz2 rfl (by omega) (some ⟨b, 0, none⟩) T.nodes.length T.nodes.length (tcells T.nodes) (by rfl) ?a1 (tcells_length _) ?a2 ⟨wr.heap.size, 0, none⟩ 1 1 [.int .i64 op, .int .i64 v, .int .i64 x0, .int .i64 x1, .int .i64 x2] (by rfl) rfl (World.news_of_block (cs := #[.int .i64 op, .int .i64 v, .int .i64 x0, .int .i64 x1, .int .i64 x2]) (t := 84) (fr := (0, 0)) (heap_alloc_new wr _)) (by simp [Value.oneCell']) (by omega) ?b1 ?b2 ?_
          case a1 => exact fun h => by cases h
          case a2 => exact fun b hb j u hu => AL.out _ _ ((HS.out.below HBZ.out).row b hb j u hu)
          case b1 => unfold maxLen; omega
          case b2 => omega
          intro v9 w3 hown3 hgrow
          have HB3' : Hid (Below wr.heap.size wr w3) := ((below_drewN (below_alloc wr (.cells #[.int .i64 op, .int .i64 v, .int .i64 x0, .int .i64 x1, .int .i64 x2] 84)) 1).grown hgrow (by simp) (fun q hq => by cases hq))
          obtain ⟨g3, cap3, rfl, hg3⟩ := own_shape2 hown3 (by omega)
          have HOWN3 := Lib.hid hown3
          have q1 := (HB3'.out.cell (cell_lt kt)).trans kt
          have s0 := (HB3'.out.cell (cell_lt k0)).trans k0
          have s1 := (HB3'.out.cell (cell_lt k1)).trans k1
          have s2 := (HB3'.out.cell (cell_lt k2)).trans k2
          have s3 := (HB3'.out.cell (cell_lt k3)).trans k3
          have s4 := (HB3'.out.cell (cell_lt k4)).trans k4
          have qf : w3.frozen? ⟨w.heap.size, 1, none⟩ = false := by have := (HB3'.out.block _ (lt_of_some HB2.out)).trans HB2.out; simp [World.frozen?, this]
          clear hgrow hown3
          refine hK _ _ ?_ ?_
          · intro q hq hwt; simp only [List.mem_cons, List.not_mem_nil, or_false] at hq; rcases hq with rfl | rfl | rfl | rfl
            · exact q1
            · exact q1
            · exact q1
            · exact ⟨s0, s1, s2, s3, s4⟩
          clear hK K
          try simp only [Act.put, List.getElem_toArray, List.getElem_cons_zero, List.getElem_cons_succ, List.setIfInBounds_toArray, List.set_cons_zero, List.set_cons_succ]
          refine wpG_take (i := 12) (v := ?_) rfl (by kernel_rfl) rfl (by kernel_rfl) (by kernel_rfl) (fun _ _ _ h => h) (by rfl) ?_ (asks_none rfl _) ?_
          rotate_left
          · intro w _; go_simp; rfl
          simp only [Act.put, List.getElem_toArray, List.getElem_cons_zero, List.getElem_cons_succ, List.setIfInBounds_toArray, List.set_cons_zero, List.set_cons_succ]
          refine wpG_loud (i := 13) rfl rfl rfl (by kernel_rfl) (fun K hK => ?_)
          go_simp
          refine hK _ _ ?_ ?_
          · intro q hq hwt; simp only [List.mem_cons, List.not_mem_nil, or_false] at hq; rcases hq with rfl | rfl | rfl | rfl
            · exact Bool.noConfusion (hwt.symm.trans (show _ = true from by kernel_rfl))
            · exact Bool.noConfusion (hwt.symm.trans (show _ = true from by kernel_rfl))
            · exact Bool.noConfusion (hwt.symm.trans (show _ = true from by kernel_rfl))
            · exact Bool.noConfusion (hwt.symm.trans (show _ = true from by kernel_rfl))
          clear hK K
          try simp only [Act.put, List.getElem_toArray, List.getElem_cons_zero, List.getElem_cons_succ, List.setIfInBounds_toArray, List.set_cons_zero, List.set_cons_succ]
          refine wpG_done (by kernel_rfl) ?_
          go_wp2
          have hzr := HBZ.out.size
          have hlt4 := lt_of_some HB4.out
          simp at hg3
          have hsl3 : SlT w3 (some ⟨g3, 0, none⟩) cap3 (T.nodes ++ [⟨op, v, x0, x1, x2⟩]) := slT_own HOWN3.out
          have HSL9 : Hid (∀ u u' u'', SlT (((w3.setCell ⟨w.heap.size, 1, none⟩ u).setCell ⟨w.heap.size + 1 + 1, 0, none⟩ u').setCell ⟨w.heap.size + 1 + 1, 1, none⟩ u'') (some ⟨g3, 0, none⟩) cap3 (T.nodes ++ [⟨op, v, x0, x1, x2⟩])) := fun _ _ _ => ((hsl3.set (by omega)).set (by omega)).set (by omega)
          have HBL9 : Hid (∀ u u' u'', Below w.heap.size w (((w3.setCell ⟨w.heap.size, 1, none⟩ u).setCell ⟨w.heap.size + 1 + 1, 0, none⟩ u').setCell ⟨w.heap.size + 1 + 1, 1, none⟩ u'')) := fun _ _ _ => (((HBZ.out.trans (HB3'.out.mono HBZ.out.size)).setCell (by simp) _).setCell (by simp; omega) _).setCell (by simp; omega) _
          have h4y := (Below.heap_setCell w3 ⟨w.heap.size, 1, none⟩ (.slice (some ⟨g3, 0, none⟩) (T.nodes.length + 1) cap3) (w.heap.size + 1 + 1) (by simp; omega)).trans ((HB3'.out.block _ hlt4).trans HB4.out)
          have hw0 := (HB3'.out.cell (cell_lt kw)).trans kw
          have y0 : (w3.setCell ⟨w.heap.size, 1, none⟩ (.slice (some ⟨g3, 0, none⟩) (T.nodes.length + 1) cap3)).cell? ⟨w.heap.size, 0, none⟩ = some (.int .i64 T.width) := (World.cell?_setCell_other w3 _ _ _ (by simp)).trans hw0
          have y1 : (w3.setCell ⟨w.heap.size, 1, none⟩ (.slice (some ⟨g3, 0, none⟩) (T.nodes.length + 1) cap3)).cell? ⟨w.heap.size, 1, none⟩ = some (.slice (some ⟨g3, 0, none⟩) (T.nodes.length + 1) cap3) := one_set _ ((HB3'.out.block _ (lt_of_some HB2.out)).trans HB2.out)
          have HL9 := Lib.hid (HSL9.out (.slice (some ⟨g3, 0, none⟩) (T.nodes.length + 1) cap3))
          have HB9' := Lib.hid (HBL9.out (.slice (some ⟨g3, 0, none⟩) (T.nodes.length + 1) cap3))
          have hgl3 : g3 < (w3.setCell ⟨w.heap.size, 1, none⟩ (.slice (some ⟨g3, 0, none⟩) (T.nodes.length + 1) cap3)).heap.size := by have := (World.ownsRow.lt HOWN3.out g3 rfl).2; simp [World.setCell]; omega
          obtain ⟨wy, hwy⟩ : ∃ wy : World, w3.setCell ⟨w.heap.size, 1, none⟩ (.slice (some ⟨g3, 0, none⟩) (T.nodes.length + 1) cap3) = wy := ⟨_, rfl⟩
          rw [hwy] at hgl3 HL9 HB9' h4y y0 y1 ⊢
          clear hwy hw0 hsl3 HSL9 HBL9 HOWN3 qf q1 s0 s1 s2 s3 s4 k0 k1 k2 k3 k4 kt kw
          have r0y : wy.cell? ⟨w.heap.size + 1 + 1, 0, none⟩ = some (.int .i64 0) := by simp [World.cell?, h4y]
          have r1y : wy.cell? ⟨w.heap.size + 1 + 1, 1, none⟩ = some (.slice none 0 0) := by simp [World.cell?, h4y]
          have f0y : ∀ o, wy.frozen? ⟨w.heap.size + 1 + 1, o, none⟩ = false := by simp [World.frozen?, h4y]
          have H4Y := Lib.hid h4y
          clear h4y
          have OTH : Hid (∀ u u', ((wy.setCell ⟨w.heap.size + 1 + 1, 0, none⟩ u).setCell ⟨w.heap.size + 1 + 1, 1, none⟩ u').cell? ⟨w.heap.size, 1, none⟩ = some (.slice (some ⟨g3, 0, none⟩) (T.nodes.length + 1) cap3)) := fun _ _ => (World.cell?_setCell_other _ _ _ _ (by first | (simp; done) | (simp; omega))).trans ((World.cell?_setCell_other _ _ _ _ (by first | (simp; done) | (simp; omega))).trans y1)
          refine wp_region_G [5] [(0, fun w' => w'.cell? ⟨w.heap.size, 0, none⟩ = some (.int .i64 T.width) ∧ w'.cell? ⟨w.heap.size, 1, none⟩ = some (.slice (some ⟨g3, 0, none⟩) (T.nodes.length + 1) cap3)), (2, fun w' => w'.cell? ⟨w.heap.size, 1, none⟩ = some (.slice (some ⟨g3, 0, none⟩) (T.nodes.length + 1) cap3))] (by kernel_rfl) ?_
          refine wpG_take (i := 0) (v := ?_) rfl (by kernel_rfl) rfl (by kernel_rfl) (by kernel_rfl) (fun _ _ _ h => h) (by rfl) ?_ (by simp [asksOf]; exact ⟨y0, y1⟩) ?_
          rotate_left
          · intro w hw; simp [asksOf] at hw; obtain ⟨hw0, hw1⟩ := hw; go_simp; rfl
          simp only [Act.put, List.getElem_toArray, List.getElem_cons_zero, List.getElem_cons_succ, List.setIfInBounds_toArray, List.set_cons_zero, List.set_cons_succ]
          refine wpG_take (i := 1) (v := ?_) rfl (by kernel_rfl) rfl (by kernel_rfl) (by kernel_rfl) (fun _ _ _ h => h) (by rfl) ?_ (asks_none rfl _) ?_
          rotate_left
          · intro w _; go_simp; rfl
          simp only [Act.put, List.getElem_toArray, List.getElem_cons_zero, List.getElem_cons_succ, List.setIfInBounds_toArray, List.set_cons_zero, List.set_cons_succ]
          refine wpG_take (i := 2) (v := ?_) rfl (by kernel_rfl) rfl (by kernel_rfl) (by kernel_rfl) (fun _ _ _ h => h) (by rfl) ?_ (by simp [asksOf]; exact y1) ?_
          rotate_left
          · intro w hw; simp [asksOf] at hw; go_simp; rfl
          simp only [Act.put, List.getElem_toArray, List.getElem_cons_zero, List.getElem_cons_succ, List.setIfInBounds_toArray, List.set_cons_zero, List.set_cons_succ]
          refine wpG_take (i := 3) (v := ?_) rfl (by kernel_rfl) rfl (by kernel_rfl) (by kernel_rfl) (fun _ _ _ h => h) (by rfl) ?_ (asks_none rfl _) ?_
          rotate_left
          · intro w _; go_simp; rfl
          simp only [Act.put, List.getElem_toArray, List.getElem_cons_zero, List.getElem_cons_succ, List.setIfInBounds_toArray, List.set_cons_zero, List.set_cons_succ]
          refine wpG_take (i := 4) (v := ?_) rfl (by kernel_rfl) rfl (by kernel_rfl) (by kernel_rfl) (fun _ _ _ h => h) (by rfl) ?_ (asks_none rfl _) ?_
          rotate_left
          · intro w _; go_simp; rfl
          simp only [Act.put, List.getElem_toArray, List.getElem_cons_zero, List.getElem_cons_succ, List.setIfInBounds_toArray, List.set_cons_zero, List.set_cons_succ]
          refine wpG_loud (i := 5) rfl rfl rfl (by kernel_rfl) (fun K hK => ?_)
          go_simp
          refine hK _ _ ?_ ?_
          · intro q hq hwt; simp only [List.mem_cons, List.not_mem_nil, or_false] at hq; rcases hq with rfl | rfl
            · exact Bool.noConfusion (hwt.symm.trans (show _ = true from by kernel_rfl))
            · exact OTH.out _ _
          clear hK K
          try simp only [Act.put, List.getElem_toArray, List.getElem_cons_zero, List.getElem_cons_succ, List.setIfInBounds_toArray, List.set_cons_zero, List.set_cons_succ]
          refine wpG_take (i := 6) (v := ?_) rfl (by kernel_rfl) rfl (by kernel_rfl) (by kernel_rfl) (fun _ _ _ h => h) (by rfl) ?_ (asks_none rfl _) ?_
          rotate_left
          · intro w _; go_simp; rfl
          simp only [Act.put, List.getElem_toArray, List.getElem_cons_zero, List.getElem_cons_succ, List.setIfInBounds_toArray, List.set_cons_zero, List.set_cons_succ]
          refine wpG_take (i := 7) (v := ?_) rfl (by kernel_rfl) rfl (by kernel_rfl) (by kernel_rfl) (fun _ _ _ h => h) (by rfl) ?_ (asks_none rfl _) ?_
          rotate_left
          · intro w _; go_simp; rfl
          simp only [Act.put, List.getElem_toArray, List.getElem_cons_zero, List.getElem_cons_succ, List.setIfInBounds_toArray, List.set_cons_zero, List.set_cons_succ]
          refine wpG_done (by kernel_rfl) ?_
          go_wp2
          refine bodyPost_ret (results_cell2 rfl rfl (loadVar66 (two_set _ _ H4Y.out).1 (two_set _ _ H4Y.out).2)) rfl ?_
          rw [HM.out]
          have kwr : IntKind.i64.wrap (T.nodes.length : Int) = T.nodes.length := by rw [IntKind.wrap_i64]; omega
          exact ⟨some ⟨g3, 0, none⟩, cap3, by simp [kwr], HL9.out _ _, .inr ⟨g3, rfl, by omega, by simp [World.setCell]; omega⟩, (HB9'.out _ _).drew⟩
theorem rmake_any (hs : SlT w A c T.nodes) (hA : RA A c) (hw : TWf T) (t : Tm) :
    Calls Try.prog 88 #[.agg #[.int .i64 T.width, .slice A T.nodes.length c], tagg t] w (RMkRet A c w (makeF T t)) := by
  rcases hA with ⟨rfl, rfl⟩ | ⟨b, rfl⟩
  · obtain ⟨wd, l⟩ := T
    have : l = [] := List.eq_nil_of_length_eq_zero (by have := hs.1; dsimp only at this; omega)
    subst this
    exact rmake_nil hw t
  · exact rmake_some hs hw t
end
end Go.Proofs.Ytgmcajojigedaaa
