/- Or, Xor and Mux of a builder: what they do to the content, and their walks. -/
import Derived.Test.YtgmcajojigedaaaGc
set_option linter.unusedSimpArgs false
set_option linter.unusedVariables false
namespace Go.Proofs.Ytgmcajojigedaaa
open Go.RowKit

theorem notL_bd {g : GS} {x : Int} (h : isLit g x) : 0 ≤ notL x ∧ notL x ≤ x + 1 := by
  have := h.1; unfold notL; split <;> omega
/-- g' grew out of g: the same inputs, at most k gates more, and it is still well formed. -/
structure Grew (k : Nat) (g g' : GS) : Prop where
  inputs : g'.inputs = g.inputs
  le : g.gates.length ≤ g'.gates.length
  room : g'.gates.length ≤ g.gates.length + k
  wf : GWf g → GWf g'
theorem Grew.lit {k : Nat} {g g' : GS} (h : Grew k g g') {x : Int} (hx : isLit g x) : isLit g' x := by
  have := h.inputs; have := h.le; unfold isLit GS.nodes at *; omega
theorem Grew.trans {a b : Nat} {g g' g'' : GS} (h : Grew a g g') (k : Grew b g' g'') : Grew (a + b) g g'' :=
  ⟨k.inputs.trans h.inputs, Nat.le_trans h.le k.le, by have := h.room; have := k.room; omega, fun hw => k.wf (h.wf hw)⟩
theorem Grew.mono {a b : Nat} {g g' : GS} (h : Grew a g g') (hab : a ≤ b) : Grew b g g' := ⟨h.inputs, h.le, by have := h.room; omega, h.wf⟩
theorem Grew.refl (k : Nat) (g : GS) : Grew k g g := ⟨rfl, Nat.le_refl _, by omega, id⟩
theorem Grew.nodes {k : Nat} {g g' : GS} (h : Grew k g g') : g.nodes ≤ g'.nodes ∧ g'.nodes ≤ g.nodes + k := by
  have := h.inputs; have := h.le; have := h.room; unfold GS.nodes; omega

theorem notL_notL (x : Int) : notL (notL x) = x := by unfold notL; split <;> split <;> omega
theorem andF_spec {g : GS} {x y : Int} (hx : isLit g x) (hy : isLit g y) (hn : g.nodes < 65536) : Grew 1 g (andF g x y).1 ∧ isLit (andF g x y).1 (andF g x y).2 := by
  have hb : 0 ≤ min x y ∧ min x y ≤ max x y ∧ max x y < 2 * (g.nodes : Int) := by have := hx.1; have := hx.2; have := hy.1; have := hy.2; omega
  have hnn : (0 : Int) < g.nodes := by unfold GS.nodes; omega
  unfold andF
  split
  · exact ⟨.refl _ _, by unfold isLit; dsimp only; omega⟩
  split
  · exact ⟨.refl _ _, by unfold isLit; dsimp only; omega⟩
  split
  · rename_i i hi
    obtain ⟨hlt, _⟩ := List.findIdx?_eq_some_iff_getElem.1 hi
    exact ⟨.refl _ _, by unfold isLit GS.nodes; dsimp only; omega⟩
  · rename_i h0 h1 _ hnone
    have hnm := notL_notL (max x y)
    refine ⟨⟨rfl, by simp, by simp, fun hw => ⟨hw.ins, ?_, fun i p hi => ?_, ?_⟩⟩, ?_⟩
    · unfold GS.nodes at *; simp only [List.length_append, List.length_singleton]; omega
    · by_cases hlt : i < g.gates.length
      · rw [List.getElem?_append_left hlt] at hi
        exact hw.gate i p hi
      · rw [List.getElem?_append_right (by omega)] at hi
        have hi0 : i - g.gates.length = 0 := by
          have := (List.getElem?_eq_some_iff.1 hi).1; simp at this; omega
        rw [hi0] at hi
        simp at hi
        subst hi
        refine ⟨by dsimp only; omega, by dsimp only; omega, ?_, ?_⟩
        · dsimp only
          unfold GS.nodes at hb
          omega
        · dsimp only
          intro h
          exact h0 (.inr (by rw [h, notL_notL]))
    · rw [List.nodup_append]
      refine ⟨hw.nodup, by simp, fun a ha b hb2 => ?_⟩
      simp only [List.mem_singleton] at hb2
      subst hb2
      have := List.findIdx?_eq_none_iff.1 hnone a ha
      simpa using this
    · unfold isLit GS.nodes; simp only [List.length_append, List.length_singleton]; omega

def orF (g : GS) (x y : Int) : GS × Int := ((andF g (notL x) (notL y)).1, notL (andF g (notL x) (notL y)).2)
def xorF (g : GS) (x y : Int) : GS × Int :=
  let a := andF g x (notL y)
  let b := andF a.1 (notL x) y
  orF b.1 a.2 b.2
def muxF (g : GS) (c x y : Int) : GS × Int :=
  let a := andF g c x
  let b := andF a.1 (notL c) y
  orF b.1 a.2 b.2
theorem orF_spec {g : GS} {x y : Int} (hx : isLit g x) (hy : isLit g y) (hn : g.nodes < 65536) : Grew 1 g (orF g x y).1 ∧ isLit (orF g x y).1 (orF g x y).2 := by
  have h := andF_spec hx.notL hy.notL hn
  exact ⟨h.1, h.2.notL⟩
theorem xorF_spec {g : GS} {x y : Int} (hx : isLit g x) (hy : isLit g y) (hn : g.nodes + 2 < 65536) : Grew 3 g (xorF g x y).1 ∧ isLit (xorF g x y).1 (xorF g x y).2 := by
  have h1 := andF_spec hx hy.notL (by omega)
  have h2 := andF_spec (h1.1.lit hx.notL) (h1.1.lit hy) (by have := h1.1.nodes; omega)
  have h3 := orF_spec (h2.1.lit h1.2) h2.2 (by have := h1.1.nodes; have := h2.1.nodes; omega)
  exact ⟨(h1.1.trans h2.1).trans h3.1, h3.2⟩
theorem muxF_spec {g : GS} {c x y : Int} (hc : isLit g c) (hx : isLit g x) (hy : isLit g y) (hn : g.nodes + 2 < 65536) : Grew 3 g (muxF g c x y).1 ∧ isLit (muxF g c x y).1 (muxF g c x y).2 := by
  have h1 := andF_spec hc hx (by omega)
  have h2 := andF_spec (h1.1.lit hc.notL) (h1.1.lit hy) (by have := h1.1.nodes; omega)
  have h3 := orF_spec (h2.1.lit h1.2) h2.2 (by have := h1.1.nodes; have := h2.1.nodes; omega)
  exact ⟨(h1.1.trans h2.1).trans h3.1, h3.2⟩

set_option maxHeartbeats 1000000 in
theorem or_any (B0 p m : Nat) (A : Option Addr) (c : Nat) (g : GS) (x y : Int) (w : World) (hB : B0 ≤ w.heap.size) (hb : Bd B0 w p m A c g) (hn : g.nodes < 65536) (hw : GWf g) (hx : isLit g x) (hy : isLit g y) :
    Calls Try.prog 138 #[.pointer (some ⟨p, 0, none⟩), .int .i64 x, .int .i64 y] w (GRet B0 p m w (orF g x y).1 (orF g x y).2) := by
  have HB := Lib.hid hb
  clear hb
  have hlits : ∀ z ∈ [x, y], isLit g z := by intro z hz; simp at hz; rcases hz with rfl | rfl <;> assumption
  have hb1 : Below w.heap.size w (w.alloc (.cells #[.int .i64 x, .int .i64 y] 3)) := (Below.refl _ _).alloc (Nat.le_refl _) _
  have HS := Lib.hid (andF_spec hx.notL hy.notL hn)
  have hx0 := hx.1
  have hx1 := hx.2
  have hy0 := hy.1
  have hy1 := hy.2
  have H1 : Hid (0 ≤ (andF g (notL x) (notL y)).2 ∧ (andF g (notL x) (notL y)).2 < 9223372036854775807) := by
    show _ ∧ _
    have h1 := HS.out.2.1; have h2 := HS.out.2.2; have h3 := HS.out.1.nodes; omega
  go_enter Try.func138, Try.ntmps138
  go_wp2_with (first
    | (go_at_call 139; refine (valid2_any B0 p m A c g [x, y] _ 2 _ (HB.out.below hb1) (by omega) (sl_new (Value.int .i64) 3 w B0 [x, y] (by simp)) hlits).mono ?_; rintro e w1 ⟨rfl, hb2⟩; have HW1 : Hid (Below w.heap.size w w1) := hb1.trans (hb2.mono (by simp)))
    | (go_at_call 107; refine (and_any B0 p m A c g _ _ _ (by have := HW1.out.size; omega) (HB.out.below HW1.out) hn hw hx.notL hy.notL).mono ?_; rintro e w2 ⟨A2, c2, rfl, hbd2, hf2⟩; have HB2 := Lib.hid hbd2; have HF2 := Lib.hid hf2; clear hbd2 hf2)
    | (go_at_call 108; refine (not_any _ _ (by first | omega | exact H1.out.1) (by first | omega | exact H1.out.2)).mono ?_; rintro e w' ⟨rfl, rfl⟩)
    | (go_at_call 140; refine (settle_any B0 p m A2 c2 _ _ _ HB2.out).mono ?_; rintro e w' ⟨rfl, rfl⟩))
  go_ret
  exact ⟨A2, c2, rfl, HB2.out, (Fr.of_below HW1.out).trans HF2.out⟩

set_option maxHeartbeats 1000000 in
theorem xor_any (B0 p m : Nat) (A : Option Addr) (c : Nat) (g : GS) (x y : Int) (w : World) (hB : B0 ≤ w.heap.size) (hb : Bd B0 w p m A c g) (hn : g.nodes + 2 < 65536) (hw : GWf g) (hx : isLit g x) (hy : isLit g y) :
    Calls Try.prog 106 #[.pointer (some ⟨p, 0, none⟩), .int .i64 x, .int .i64 y] w (GRet B0 p m w (xorF g x y).1 (xorF g x y).2) := by
  have HB := Lib.hid hb
  clear hb
  have hlits : ∀ z ∈ [x, y], isLit g z := by intro z hz; simp at hz; rcases hz with rfl | rfl <;> assumption
  have hb1 : Below w.heap.size w (w.alloc (.cells #[.int .i64 x, .int .i64 y] 3)) := (Below.refl _ _).alloc (Nat.le_refl _) _
  have S1 := Lib.hid (andF_spec hx hy.notL (show g.nodes < 65536 by omega))
  have N1 : Hid ((andF g x (notL y)).1.nodes + 1 < 65536) := by show _ < _; have := S1.out.1.nodes; omega
  have S2 := Lib.hid (andF_spec (S1.out.1.lit hx.notL) (S1.out.1.lit hy) (show (andF g x (notL y)).1.nodes < 65536 by have := N1.out; omega))
  have N2 : Hid ((andF (andF g x (notL y)).1 (notL x) y).1.nodes < 65536) := by show _ < _; have := S2.out.1.nodes; have := N1.out; omega
  have HW := Lib.hid hw
  clear hw
  have hx0 := hx.1
  have hx1 := hx.2
  have hy0 := hy.1
  have hy1 := hy.2
  go_enter Try.func106, Try.ntmps106
  go_wp2_with (first
    | (go_at_call 139; refine (valid2_any B0 p m A c g [x, y] _ 2 _ (HB.out.below hb1) (by omega) (sl_new (Value.int .i64) 3 w B0 [x, y] (by simp)) hlits).mono ?_; rintro e w1 ⟨rfl, hb2⟩; have HW1 : Hid (Below w.heap.size w w1) := hb1.trans (hb2.mono (by simp)); clear hb2)
    | (go_at_call 108; refine (not_any _ _ (by omega) (by omega)).mono ?_; rintro e w' ⟨rfl, rfl⟩)
    | (go_at_call 107; have _t := HW1; refine (and_any B0 p m A c g _ _ _ (by have := HW1.out.size; omega) (HB.out.below HW1.out) (by omega) HW.out hx hy.notL).mono ?_; rintro e w2 ⟨A2, c2, rfl, hbd2, hf2⟩; have HB2 := Lib.hid hbd2; have HF2 : Hid (Fr B0 [116, 123] [m] w w2) := (Fr.of_below HW1.out).trans hf2; clear hbd2 hf2 HW1)
    | (go_at_call 107; have _t := HF2; refine (and_any B0 p m A2 c2 _ _ _ _ (by have := HF2.out.size; omega) HB2.out (by have := N1.out; omega) (S1.out.1.wf HW.out) (S1.out.1.lit hx.notL) (S1.out.1.lit hy)).mono ?_; rintro e w3 ⟨A3, c3, rfl, hbd3, hf3⟩; have HB3 := Lib.hid hbd3; have HF3 : Hid (Fr B0 [116, 123] [m] w w3) := HF2.out.trans hf3; clear hbd3 hf3 HF2 HB2)
    | (go_at_call 138; have _t := HF3; refine (or_any B0 p m A3 c3 _ _ _ _ (by have := HF3.out.size; omega) HB3.out N2.out (S2.out.1.wf (S1.out.1.wf HW.out)) (S2.out.1.lit S1.out.2) S2.out.2).mono ?_; rintro e w4 ⟨A4, c4, rfl, hbd4, hf4⟩; have HB4 := Lib.hid hbd4; have HF4 : Hid (Fr B0 [116, 123] [m] w w4) := HF3.out.trans hf4; clear hbd4 hf4 HF3 HB3)
    | (go_at_call 140; refine (settle_any B0 p m A4 c4 _ _ _ HB4.out).mono ?_; rintro e w' ⟨rfl, rfl⟩))
  go_ret
  exact ⟨A4, c4, rfl, HB4.out, HF4.out⟩

set_option maxHeartbeats 1000000 in
theorem mux_any (B0 p m : Nat) (A : Option Addr) (c : Nat) (g : GS) (k x y : Int) (w : World) (hB : B0 ≤ w.heap.size) (hb : Bd B0 w p m A c g) (hn : g.nodes + 2 < 65536) (hw : GWf g) (hk : isLit g k) (hx : isLit g x) (hy : isLit g y) :
    Calls Try.prog 109 #[.pointer (some ⟨p, 0, none⟩), .int .i64 k, .int .i64 x, .int .i64 y] w (GRet B0 p m w (muxF g k x y).1 (muxF g k x y).2) := by
  have HB := Lib.hid hb
  clear hb
  have hlits : ∀ z ∈ [k, x, y], isLit g z := by intro z hz; simp at hz; rcases hz with rfl | rfl | rfl <;> assumption
  have hb1 : Below w.heap.size w (w.alloc (.cells #[.int .i64 k, .int .i64 x, .int .i64 y] 3)) := (Below.refl _ _).alloc (Nat.le_refl _) _
  have S1 := Lib.hid (andF_spec hk hx (show g.nodes < 65536 by omega))
  have N1 : Hid ((andF g k x).1.nodes + 1 < 65536) := by show _ < _; have := S1.out.1.nodes; omega
  have S2 := Lib.hid (andF_spec (S1.out.1.lit hk.notL) (S1.out.1.lit hy) (show (andF g k x).1.nodes < 65536 by have := N1.out; omega))
  have N2 : Hid ((andF (andF g k x).1 (notL k) y).1.nodes < 65536) := by show _ < _; have := S2.out.1.nodes; have := N1.out; omega
  have HW := Lib.hid hw
  clear hw
  have hk0 := hk.1
  have hk1 := hk.2
  have hx0 := hx.1
  have hx1 := hx.2
  have hy0 := hy.1
  have hy1 := hy.2
  go_enter Try.func109, Try.ntmps109
  go_wp2_with (first
    | (go_at_call 139; refine (valid2_any B0 p m A c g [k, x, y] _ 3 _ (HB.out.below hb1) (by omega) (sl_new (Value.int .i64) 3 w B0 [k, x, y] (by simp)) hlits).mono ?_; rintro e w1 ⟨rfl, hb2⟩; have HW1 : Hid (Below w.heap.size w w1) := hb1.trans (hb2.mono (by simp)); clear hb2)
    | (go_at_call 108; refine (not_any _ _ (by omega) (by omega)).mono ?_; rintro e w' ⟨rfl, rfl⟩)
    | (go_at_call 107; have _t := HW1; refine (and_any B0 p m A c g _ _ _ (by have := HW1.out.size; omega) (HB.out.below HW1.out) (by omega) HW.out hk hx).mono ?_; rintro e w2 ⟨A2, c2, rfl, hbd2, hf2⟩; have HB2 := Lib.hid hbd2; have HF2 : Hid (Fr B0 [116, 123] [m] w w2) := (Fr.of_below HW1.out).trans hf2; clear hbd2 hf2 HW1)
    | (go_at_call 107; have _t := HF2; refine (and_any B0 p m A2 c2 _ _ _ _ (by have := HF2.out.size; omega) HB2.out (by have := N1.out; omega) (S1.out.1.wf HW.out) (S1.out.1.lit hk.notL) (S1.out.1.lit hy)).mono ?_; rintro e w3 ⟨A3, c3, rfl, hbd3, hf3⟩; have HB3 := Lib.hid hbd3; have HF3 : Hid (Fr B0 [116, 123] [m] w w3) := HF2.out.trans hf3; clear hbd3 hf3 HF2 HB2)
    | (go_at_call 138; have _t := HF3; refine (or_any B0 p m A3 c3 _ _ _ _ (by have := HF3.out.size; omega) HB3.out N2.out (S2.out.1.wf (S1.out.1.wf HW.out)) (S2.out.1.lit S1.out.2) S2.out.2).mono ?_; rintro e w4 ⟨A4, c4, rfl, hbd4, hf4⟩; have HB4 := Lib.hid hbd4; have HF4 : Hid (Fr B0 [116, 123] [m] w w4) := HF3.out.trans hf4; clear hbd4 hf4 HF3 HB3)
    | (go_at_call 140; refine (settle_any B0 p m A4 c4 _ _ _ HB4.out).mono ?_; rintro e w' ⟨rfl, rfl⟩))
  go_ret
  exact ⟨A4, c4, rfl, HB4.out, HF4.out⟩
end Go.Proofs.Ytgmcajojigedaaa
