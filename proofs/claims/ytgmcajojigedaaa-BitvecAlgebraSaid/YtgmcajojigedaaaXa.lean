/- BitvecAlgebra: a table's state, told by the values of some nodes; the closures 'op' and 'is' (printed by genxa.py). -/
import Derived.Test.YtgmcajojigedaaaUf
import Derived.Test.YtgmcajojigedaaaVb
import Derived.Laws.CopyRow
set_option linter.unusedSimpArgs false
set_option linter.unusedVariables false
namespace Go.Proofs.Ytgmcajojigedaaa
open Go.RowKit

/-! ### Longer tables -/
def ExtT (T T' : TS) : Prop := T'.width = T.width ∧ ∃ r, T'.nodes = T.nodes ++ r
section
variable {T T' : TS} {inp : List Int}
theorem ExtT.get (h : ExtT T T') {k : Nat} {t : Tm} (hk : T.nodes[k]? = some t) : T'.nodes[k]? = some t := by
  obtain ⟨_, r, e⟩ := h
  rw [e, List.getElem?_append_left (List.getElem?_eq_some_iff.1 hk).1]; exact hk
theorem nodeV_congr {wd : Int} {t : Tm} {f g : Nat → Option Int} (h : ∀ x, f x = g x) : nodeV wd inp f t = nodeV wd inp g t := by
  rw [show f = g from funext h]
theorem vF_ext (h : ExtT T T') : ∀ n, n ≤ T.nodes.length → ∀ x, vF T' inp n x = vF T inp n x
  | 0, _, _ => rfl
  | n + 1, hn, x => by
    have ih := vF_ext h n (by omega)
    obtain ⟨hw, r, e⟩ := h
    rw [vF, vF]
    split
    · have : T'.nodes[n]? = T.nodes[n]? := by rw [e, List.getElem?_append_left (by omega)]
      rw [this, hw]
      split
      · exact nodeV_congr ih
      · rfl
    · exact ih x
theorem vAt_ext (h : ExtT T T') {k : Nat} (hk : k < T.nodes.length) : vAt T' inp k = vAt T inp k := vF_ext h (k + 1) hk k
def Ev (T : TS) (inp : List Int) (i s v : Int) : Prop := ∃ (k : Nat) (t : Tm), i = k ∧ T.nodes[k]? = some t ∧ sortF t.op = s ∧ vAt T inp k = some v
theorem Ev.ext {i s v : Int} (h : Ev T inp i s v) (he : ExtT T T') : Ev T' inp i s v := by
  obtain ⟨k, t, h1, h2, h3, h4⟩ := h
  exact ⟨k, t, h1, he.get h2, h3, by rw [vAt_ext he (List.getElem?_eq_some_iff.1 h2).1]; exact h4⟩
theorem Ev.arg {i s v : Int} (h : Ev T inp i s v) (h0 : s ≠ -1) : argOk T s i = true ∧ argV (vAt T inp) s i = some v := by
  obtain ⟨k, t, rfl, h2, h3, h4⟩ := h
  constructor
  · unfold argOk; rw [if_neg h0]
    have : nodeAt T (k : Int) = some t := by unfold nodeAt; rw [if_pos (by omega)]; exact h2
    rw [this]; exact decide_eq_true h3
  · unfold argV; rw [if_neg h0]; exact h4
theorem makeF_fit {t : Tm} (hf : fitsT T t = true) (hn : T.nodes.length < 16384) : ∃ (T' : TS) (k : Nat), makeF T t = (T', (k : Int), 0) ∧ T'.nodes[k]? = some t ∧ ExtT T T' ∧ T'.nodes.length ≤ T.nodes.length + 1 := by
  unfold makeF
  rw [if_pos hf]
  rcases hi : T.nodes.findIdx? (· == t) with _ | i
  · rw [if_neg (by omega)]
    exact ⟨_, _, rfl, by simp, ⟨rfl, [t], rfl⟩, by simp⟩
  · obtain ⟨h1, h2, _⟩ := List.findIdx?_eq_some_iff_getElem.1 hi
    exact ⟨_, i, rfl, by rw [List.getElem?_eq_getElem h1]; exact congrArg some (eq_of_beq h2), ⟨rfl, [], by simp⟩, by omega⟩
end
theorem sort_of_form {op s0 s1 s2 s : Int} (hf : formF op = some ((s0, s1, s2), s)) : sortF op = s := by
  obtain ⟨h1, h2⟩ := formF_lt hf
  unfold sortF
  rw [if_neg (by omega), hf]

/-! ### The state -/
def St (B0 P11 P10 : Nat) (q : Int) (inp : List Int) (Ai : Option Addr) (ci : Nat) (w : World) (n : Nat) (S : List (Int × Int × Int)) : Prop :=
  ∃ T p m A c, Tb B0 w p m A c T ∧ TWf T ∧ T.width = q ∧ T.nodes.length ≤ n ∧ w.heap[P11]? = some (.cells #[.pointer (some ⟨p, 0, none⟩)] 63 (0, 0)) ∧
    w.heap[P10]? = some (.cells #[.slice Ai inp.length ci] 24 (0, 0)) ∧ SlI w B0 Ai ci inp ∧ B0 ≤ w.heap.size ∧ ∀ x ∈ S, Ev T inp x.1 x.2.1 x.2.2
section
variable {B0 P11 P10 : Nat} {q : Int} {inp : List Int} {Ai : Option Addr} {ci n : Nat} {S : List (Int × Int × Int)} {w w' : World}
theorem St.below (h : St B0 P11 P10 q inp Ai ci w n S) (hb : Below w.heap.size w w') : St B0 P11 P10 q inp Ai ci w' n S := by
  obtain ⟨T, p, m, A, c, h1, h2, h3, h4, h5, h6, h7, h8, h9⟩ := h
  exact ⟨T, p, m, A, c, h1.below hb, h2, h3, h4, (hb.block _ (lt_of_some h5)).trans h5, (hb.block _ (lt_of_some h6)).trans h6, h7.below hb, Nat.le_trans h8 hb.size, h9⟩
theorem St.size (h : St B0 P11 P10 q inp Ai ci w n S) : B0 ≤ w.heap.size := by
  obtain ⟨_, _, _, _, _, _, _, _, _, _, _, _, h, _⟩ := h
  exact h
theorem world_ext {a b : World} (h1 : a.heap = b.heap) (h2 : a.tape = b.tape) (h3 : a.drawn = b.drawn) (h4 : a.os = b.os) (h5 : a.output = b.output) : a = b := by
  cases a; cases b; simp_all
theorem setRow_alloc (w : World) (c0 c1 : Array Value) (t : Nat) : (w.alloc (.cells c0 t)).setRow w.heap.size c1 = w.alloc (.cells c1 t) := by
  refine world_ext ?_ rfl rfl rfl rfl
  apply Array.ext_getElem?
  intro k
  by_cases hk : k = w.heap.size
  · subst hk
    rw [setRow_heap _ _ _ _ _ _ (heap_alloc_new w (.cells c0 t)), heap_alloc_new]
  · rw [setRow_other _ _ _ _ hk]
    by_cases hlt : k < w.heap.size
    · rw [Below.heap_alloc w _ _ hlt, Below.heap_alloc w _ _ hlt]
    · rw [Array.getElem?_eq_none (by simp; omega), Array.getElem?_eq_none (by simp; omega)]

set_option maxRecDepth 100000 in
set_option maxHeartbeats 1000000 in
theorem op1 (hs : St B0 P11 P10 q inp Ai ci w n S) (hn : n < 16384) {op s s0 s1 s2 i a : Int} {bl : Nat} (hf : formF op = some ((s0, s1, s2), s)) (h0 : s0 ≠ -1) (h1 : s1 = -1) (h2 : s2 = -1) (hc0 : w.cell? ⟨bl, 0, none⟩ = some (.int .i64 i)) (hm0 : (i, s0, a) ∈ S)  :
    Calls Try.prog 83 #[.int .i64 op, .slice (some ⟨bl, 0, none⟩) 1 1, .pointer (some ⟨P11, 0, none⟩)] w fun e w' => ∃ k, e = .returned (.int .i64 k) ∧ St B0 P11 P10 q inp Ai ci w' (n + 1) ((k, s, opV q op a 0 0) :: S) ∧ Below B0 w w' := by
  obtain ⟨T, p, m, A, c, hb, hwf, rfl, hlen, h11, h10, hsl, hB, hS⟩ := hs
  have e0 := hS _ hm0
  subst h1
  subst h2
  have hfit : fitsT T ⟨op, 0, i, 0, 0⟩ = true := by
    unfold fitsT; rw [hf]; dsimp only
    rw [(e0.arg h0).1, show argOk T (-1) 0 = true from rfl]; rfl
  obtain ⟨T', k, hmk, hk, hext, hlen'⟩ := makeF_fit hfit (by omega)
  have hwf' : TWf T' := by have := makeF_wf hwf ⟨op, 0, i, 0, 0⟩; rwa [hmk] at this
  have hEv : Ev T' inp (k : Int) s (opV T.width op a 0 0) := by
    refine ⟨k, _, rfl, hk, sort_of_form hf, ?_⟩
    rw [vAt_op hwf' hk hf]
    dsimp only
    rw [((e0.ext hext).arg h0).2, show argV (vAt T' inp) (-1) 0 = some 0 from rfl]
    dsimp only [Option.bind_some]
    rw [hext.1]
  have hcopy : ∀ ty, (Builtin.copy_ #[24, 24] ty #[.slice (some ⟨w.heap.size, 2, none⟩) 3 3, .slice (some ⟨bl, 0, none⟩) 1 1]).run Try.prog (w.alloc (.cells #[.int .i64 op, .int .i64 0, .int .i64 0, .int .i64 0, .int .i64 0] 84)) = .ok (.int .i64 1) (w.alloc (.cells #[.int .i64 op, .int .i64 0, .int .i64 i, .int .i64 0, .int .i64 0] 84)) := fun ty => by
    have h := run_copy_row Try.prog (w.alloc (.cells #[.int .i64 op, .int .i64 0, .int .i64 0, .int .i64 0, .int .i64 0] 84)) 24 24 ty 3 w.heap.size 2 3 3 ⟨bl, 0, none⟩ 1 1 _ 84 [.int .i64 i] Try.underlying24 (by kernel_rfl) (heap_alloc_new w _) rfl (fun j v hv => ?_) (by simp) (by simp [Value.oneCell'])
    · rw [h, setRow_alloc]; rfl
    · rw [Addr.add_lit, Nat.zero_add]
      rcases j with _ | j
      · cases hv; exact (World.cell?_alloc_lt w _ _ (cell_lt hc0)).trans hc0
      · simp at hv
  have hp : w.cell? ⟨P11, 0, none⟩ = some (.pointer (some ⟨p, 0, none⟩)) := by simp [World.cell?, h11]
  have hplt : P11 < w.heap.size := lt_of_some h11
  have hblt : bl < w.heap.size := cell_lt hc0
  have HB := Lib.hid (hb.below (below_alloc w (.cells #[.int .i64 op, .int .i64 0, .int .i64 i, .int .i64 0, .int .i64 0] 84)))
  have HB2 := Lib.hid hb
  have HMK := Lib.hid hmk
  have HSZ := Lib.hid hB
  have H11 := Lib.hid h11
  have H10 := Lib.hid h10
  have HSL := Lib.hid hsl
  have HS := Lib.hid hS
  have HE := Lib.hid hEv
  have HX := Lib.hid hext
  have HW' := Lib.hid hwf'
  clear hb hmk hB h11 h10 hsl hS hEv hext hwf' hfit hk e0 hm0
  go_enter Try.func83, Try.ntmps83
  go_wp2_with (go_at_call 84; go_must (refine (make_any (B0 := B0) (by have := HSZ.out; simp; omega) HB.out hwf ⟨op, 0, i, 0, 0⟩).mono ?_; rw [HMK.out]; rintro e w3 ⟨A3, c3, rfl, ht, hfr, -⟩; have HT3 := Lib.hid ht; have HF3 := Lib.hid (hfr.fr HB.out); clear ht hfr))
  go_ret
  have hA : Fr B0 [134, 84] [m] w (w.alloc (.cells #[.int .i64 op, .int .i64 0, .int .i64 i, .int .i64 0, .int .i64 0] 84)) := .of_below (below_alloc _ _)
  have hF := hA.trans HF3.out
  exact ⟨k, rfl, ⟨T', p, m, A3, c3, HT3.out, HW'.out, HX.out.1, by omega, hF.block _ _ H11.out (fun h => by have := h.2; simp [turns] at this), hF.block _ _ H10.out (fun h => by have := h.2; simp [turns] at this), HSL.out.fr hF (by decide), Nat.le_trans HSZ.out hF.size,
    fun x hx => by
      rcases List.mem_cons.1 hx with rfl | hx
      · exact HE.out
      · exact (HS.out x hx).ext HX.out⟩, hF.below HSZ.out⟩

set_option maxRecDepth 100000 in
set_option maxHeartbeats 1000000 in
theorem op2 (hs : St B0 P11 P10 q inp Ai ci w n S) (hn : n < 16384) {op s s0 s1 s2 i j a b : Int} {bl : Nat} (hf : formF op = some ((s0, s1, s2), s)) (h0 : s0 ≠ -1) (h1 : s1 ≠ -1) (h2 : s2 = -1) (hc0 : w.cell? ⟨bl, 0, none⟩ = some (.int .i64 i)) (hc1 : w.cell? ⟨bl, 1, none⟩ = some (.int .i64 j)) (hm0 : (i, s0, a) ∈ S) (hm1 : (j, s1, b) ∈ S)  :
    Calls Try.prog 83 #[.int .i64 op, .slice (some ⟨bl, 0, none⟩) 2 2, .pointer (some ⟨P11, 0, none⟩)] w fun e w' => ∃ k, e = .returned (.int .i64 k) ∧ St B0 P11 P10 q inp Ai ci w' (n + 1) ((k, s, opV q op a b 0) :: S) ∧ Below B0 w w' := by
  obtain ⟨T, p, m, A, c, hb, hwf, rfl, hlen, h11, h10, hsl, hB, hS⟩ := hs
  have e0 := hS _ hm0
  have e1 := hS _ hm1
  subst h2
  have hfit : fitsT T ⟨op, 0, i, j, 0⟩ = true := by
    unfold fitsT; rw [hf]; dsimp only
    rw [(e0.arg h0).1, (e1.arg h1).1, show argOk T (-1) 0 = true from rfl]; rfl
  obtain ⟨T', k, hmk, hk, hext, hlen'⟩ := makeF_fit hfit (by omega)
  have hwf' : TWf T' := by have := makeF_wf hwf ⟨op, 0, i, j, 0⟩; rwa [hmk] at this
  have hEv : Ev T' inp (k : Int) s (opV T.width op a b 0) := by
    refine ⟨k, _, rfl, hk, sort_of_form hf, ?_⟩
    rw [vAt_op hwf' hk hf]
    dsimp only
    rw [((e0.ext hext).arg h0).2, ((e1.ext hext).arg h1).2, show argV (vAt T' inp) (-1) 0 = some 0 from rfl]
    dsimp only [Option.bind_some]
    rw [hext.1]
  have hcopy : ∀ ty, (Builtin.copy_ #[24, 24] ty #[.slice (some ⟨w.heap.size, 2, none⟩) 3 3, .slice (some ⟨bl, 0, none⟩) 2 2]).run Try.prog (w.alloc (.cells #[.int .i64 op, .int .i64 0, .int .i64 0, .int .i64 0, .int .i64 0] 84)) = .ok (.int .i64 2) (w.alloc (.cells #[.int .i64 op, .int .i64 0, .int .i64 i, .int .i64 j, .int .i64 0] 84)) := fun ty => by
    have h := run_copy_row Try.prog (w.alloc (.cells #[.int .i64 op, .int .i64 0, .int .i64 0, .int .i64 0, .int .i64 0] 84)) 24 24 ty 3 w.heap.size 2 3 3 ⟨bl, 0, none⟩ 2 2 _ 84 [.int .i64 i, .int .i64 j] Try.underlying24 (by kernel_rfl) (heap_alloc_new w _) rfl (fun j v hv => ?_) (by simp) (by simp [Value.oneCell'])
    · rw [h, setRow_alloc]; rfl
    · rw [Addr.add_lit, Nat.zero_add]
      rcases j with _ | _ | j
      · cases hv; exact (World.cell?_alloc_lt w _ _ (cell_lt hc0)).trans hc0
      · cases hv; exact (World.cell?_alloc_lt w _ _ (cell_lt hc1)).trans hc1
      · simp at hv
  have hp : w.cell? ⟨P11, 0, none⟩ = some (.pointer (some ⟨p, 0, none⟩)) := by simp [World.cell?, h11]
  have hplt : P11 < w.heap.size := lt_of_some h11
  have hblt : bl < w.heap.size := cell_lt hc0
  have HB := Lib.hid (hb.below (below_alloc w (.cells #[.int .i64 op, .int .i64 0, .int .i64 i, .int .i64 j, .int .i64 0] 84)))
  have HB2 := Lib.hid hb
  have HMK := Lib.hid hmk
  have HSZ := Lib.hid hB
  have H11 := Lib.hid h11
  have H10 := Lib.hid h10
  have HSL := Lib.hid hsl
  have HS := Lib.hid hS
  have HE := Lib.hid hEv
  have HX := Lib.hid hext
  have HW' := Lib.hid hwf'
  clear hb hmk hB h11 h10 hsl hS hEv hext hwf' hfit hk e0 hm0 e1 hm1
  go_enter Try.func83, Try.ntmps83
  go_wp2_with (go_at_call 84; go_must (refine (make_any (B0 := B0) (by have := HSZ.out; simp; omega) HB.out hwf ⟨op, 0, i, j, 0⟩).mono ?_; rw [HMK.out]; rintro e w3 ⟨A3, c3, rfl, ht, hfr, -⟩; have HT3 := Lib.hid ht; have HF3 := Lib.hid (hfr.fr HB.out); clear ht hfr))
  go_ret
  have hA : Fr B0 [134, 84] [m] w (w.alloc (.cells #[.int .i64 op, .int .i64 0, .int .i64 i, .int .i64 j, .int .i64 0] 84)) := .of_below (below_alloc _ _)
  have hF := hA.trans HF3.out
  exact ⟨k, rfl, ⟨T', p, m, A3, c3, HT3.out, HW'.out, HX.out.1, by omega, hF.block _ _ H11.out (fun h => by have := h.2; simp [turns] at this), hF.block _ _ H10.out (fun h => by have := h.2; simp [turns] at this), HSL.out.fr hF (by decide), Nat.le_trans HSZ.out hF.size,
    fun x hx => by
      rcases List.mem_cons.1 hx with rfl | hx
      · exact HE.out
      · exact (HS.out x hx).ext HX.out⟩, hF.below HSZ.out⟩

set_option maxRecDepth 100000 in
set_option maxHeartbeats 1000000 in
theorem op3 (hs : St B0 P11 P10 q inp Ai ci w n S) (hn : n < 16384) {op s s0 s1 s2 i j k0 a b c0 : Int} {bl : Nat} (hf : formF op = some ((s0, s1, s2), s)) (h0 : s0 ≠ -1) (h1 : s1 ≠ -1) (h2 : s2 ≠ -1) (hc0 : w.cell? ⟨bl, 0, none⟩ = some (.int .i64 i)) (hc1 : w.cell? ⟨bl, 1, none⟩ = some (.int .i64 j)) (hc2 : w.cell? ⟨bl, 2, none⟩ = some (.int .i64 k0)) (hm0 : (i, s0, a) ∈ S) (hm1 : (j, s1, b) ∈ S) (hm2 : (k0, s2, c0) ∈ S)  :
    Calls Try.prog 83 #[.int .i64 op, .slice (some ⟨bl, 0, none⟩) 3 3, .pointer (some ⟨P11, 0, none⟩)] w fun e w' => ∃ k, e = .returned (.int .i64 k) ∧ St B0 P11 P10 q inp Ai ci w' (n + 1) ((k, s, opV q op a b c0) :: S) ∧ Below B0 w w' := by
  obtain ⟨T, p, m, A, c, hb, hwf, rfl, hlen, h11, h10, hsl, hB, hS⟩ := hs
  have e0 := hS _ hm0
  have e1 := hS _ hm1
  have e2 := hS _ hm2
  have hfit : fitsT T ⟨op, 0, i, j, k0⟩ = true := by
    unfold fitsT; rw [hf]; dsimp only
    rw [(e0.arg h0).1, (e1.arg h1).1, (e2.arg h2).1]; rfl
  obtain ⟨T', k, hmk, hk, hext, hlen'⟩ := makeF_fit hfit (by omega)
  have hwf' : TWf T' := by have := makeF_wf hwf ⟨op, 0, i, j, k0⟩; rwa [hmk] at this
  have hEv : Ev T' inp (k : Int) s (opV T.width op a b c0) := by
    refine ⟨k, _, rfl, hk, sort_of_form hf, ?_⟩
    rw [vAt_op hwf' hk hf]
    dsimp only
    rw [((e0.ext hext).arg h0).2, ((e1.ext hext).arg h1).2, ((e2.ext hext).arg h2).2]
    dsimp only [Option.bind_some]
    rw [hext.1]
  have hcopy : ∀ ty, (Builtin.copy_ #[24, 24] ty #[.slice (some ⟨w.heap.size, 2, none⟩) 3 3, .slice (some ⟨bl, 0, none⟩) 3 3]).run Try.prog (w.alloc (.cells #[.int .i64 op, .int .i64 0, .int .i64 0, .int .i64 0, .int .i64 0] 84)) = .ok (.int .i64 3) (w.alloc (.cells #[.int .i64 op, .int .i64 0, .int .i64 i, .int .i64 j, .int .i64 k0] 84)) := fun ty => by
    have h := run_copy_row Try.prog (w.alloc (.cells #[.int .i64 op, .int .i64 0, .int .i64 0, .int .i64 0, .int .i64 0] 84)) 24 24 ty 3 w.heap.size 2 3 3 ⟨bl, 0, none⟩ 3 3 _ 84 [.int .i64 i, .int .i64 j, .int .i64 k0] Try.underlying24 (by kernel_rfl) (heap_alloc_new w _) rfl (fun j v hv => ?_) (by simp) (by simp [Value.oneCell'])
    · rw [h, setRow_alloc]; rfl
    · rw [Addr.add_lit, Nat.zero_add]
      rcases j with _ | _ | _ | j
      · cases hv; exact (World.cell?_alloc_lt w _ _ (cell_lt hc0)).trans hc0
      · cases hv; exact (World.cell?_alloc_lt w _ _ (cell_lt hc1)).trans hc1
      · cases hv; exact (World.cell?_alloc_lt w _ _ (cell_lt hc2)).trans hc2
      · simp at hv
  have hp : w.cell? ⟨P11, 0, none⟩ = some (.pointer (some ⟨p, 0, none⟩)) := by simp [World.cell?, h11]
  have hplt : P11 < w.heap.size := lt_of_some h11
  have hblt : bl < w.heap.size := cell_lt hc0
  have HB := Lib.hid (hb.below (below_alloc w (.cells #[.int .i64 op, .int .i64 0, .int .i64 i, .int .i64 j, .int .i64 k0] 84)))
  have HB2 := Lib.hid hb
  have HMK := Lib.hid hmk
  have HSZ := Lib.hid hB
  have H11 := Lib.hid h11
  have H10 := Lib.hid h10
  have HSL := Lib.hid hsl
  have HS := Lib.hid hS
  have HE := Lib.hid hEv
  have HX := Lib.hid hext
  have HW' := Lib.hid hwf'
  clear hb hmk hB h11 h10 hsl hS hEv hext hwf' hfit hk e0 hm0 e1 hm1 e2 hm2
  go_enter Try.func83, Try.ntmps83
  go_wp2_with (go_at_call 84; go_must (refine (make_any (B0 := B0) (by have := HSZ.out; simp; omega) HB.out hwf ⟨op, 0, i, j, k0⟩).mono ?_; rw [HMK.out]; rintro e w3 ⟨A3, c3, rfl, ht, hfr, -⟩; have HT3 := Lib.hid ht; have HF3 := Lib.hid (hfr.fr HB.out); clear ht hfr))
  go_ret
  have hA : Fr B0 [134, 84] [m] w (w.alloc (.cells #[.int .i64 op, .int .i64 0, .int .i64 i, .int .i64 j, .int .i64 k0] 84)) := .of_below (below_alloc _ _)
  have hF := hA.trans HF3.out
  exact ⟨k, rfl, ⟨T', p, m, A3, c3, HT3.out, HW'.out, HX.out.1, by omega, hF.block _ _ H11.out (fun h => by have := h.2; simp [turns] at this), hF.block _ _ H10.out (fun h => by have := h.2; simp [turns] at this), HSL.out.fr hF (by decide), Nat.le_trans HSZ.out hF.size,
    fun x hx => by
      rcases List.mem_cons.1 hx with rfl | hx
      · exact HE.out
      · exact (HS.out x hx).ext HX.out⟩, hF.below HSZ.out⟩

set_option maxRecDepth 100000 in
theorem is_any (hs : St B0 P11 P10 q inp Ai ci w n S) {i j s0 s1 a b : Int} (hm0 : (i, s0, a) ∈ S) (hm1 : (j, s1, b) ∈ S) (hab : a = b) :
    Calls Try.prog 85 #[.int .i64 i, .int .i64 j, .pointer (some ⟨P11, 0, none⟩), .pointer (some ⟨P10, 0, none⟩)] w fun e w' => e = .returned (.bool true) ∧ St B0 P11 P10 q inp Ai ci w' n S ∧ Below B0 w w' := by
  have HST := Lib.hid hs
  obtain ⟨T, p, m, A, c, hb, hwf, rfl, hlen, h11, h10, hsl, hB, hS⟩ := hs
  have hev : ∀ {i s a : Int}, (i, s, a) ∈ S → evalF T inp i = (a, 0) := fun {i s a} hm => by
    obtain ⟨k, t, hik, h2, h3, h4⟩ := hS _ hm
    dsimp only at hik h3 h4
    subst hik
    unfold evalF
    rw [show nodeAt T (k : Int) = some t from by unfold nodeAt; rw [if_pos (by omega)]; exact h2]
    dsimp only
    rw [Int.toNat_natCast, h4]
  have HE0 := Lib.hid (hev hm0)
  have HE1 := Lib.hid (hev hm1)
  have hp : w.cell? ⟨P11, 0, none⟩ = some (.pointer (some ⟨p, 0, none⟩)) := by simp [World.cell?, h11]
  have hp2 : w.cell? ⟨P10, 0, none⟩ = some (.slice Ai inp.length ci) := by simp [World.cell?, h10]
  have HP := Lib.hid hp
  have HP2 := Lib.hid hp2
  have HB := Lib.hid hb
  have HSL := Lib.hid hsl
  have HSZ := Lib.hid hB
  subst hab
  clear hb hS hev hsl h11 h10 hm0 hm1 hB
  go_enter Try.func85, Try.ntmps85
  go_wp2_with (first
    | (go_at_call 58; have _t := HB1; go_must (refine (eval_any (HB.out.below HB1.out) hwf ((HSL.out.below HB1.out).more (Nat.le_trans HSZ.out HB1.out.size)) j).mono ?_; rw [HE1.out]; rintro e w2 ⟨rfl, hb2⟩; have HB2 := Lib.hid (HB1.out.trans (hb2.mono HB1.out.size)); clear hb2))
    | (go_at_call 58; go_must (refine (eval_any HB.out hwf (HSL.out.more HSZ.out) i).mono ?_; rw [HE0.out]; rintro e w1 ⟨rfl, hb1⟩; have hp' := (hb1.cell (cell_lt HP.out)).trans HP.out; have hp2' := (hb1.cell (cell_lt HP2.out)).trans HP2.out; have HB1 := Lib.hid hb1; clear hb1 hp hp2)))
  go_ret
  exact ⟨rfl, HST.out.below HB2.out, HB2.out.mono HSZ.out⟩
end
end Go.Proofs.Ytgmcajojigedaaa
