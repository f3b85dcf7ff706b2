/- The examples that the laws of chapter 25 check first. -/
import Derived.Test.YtgmcajojigedaaaBx
import Derived.Deep.RegionWith
set_option linter.unusedSimpArgs false
set_option linter.unusedVariables false
namespace Go.Proofs.Ytgmcajojigedaaa
open Go.RowKit

theorem Bd.mono {B0 B1 : Nat} {w : World} {p m : Nat} {A : Option Addr} {c : Nat} {g : GS} (h : Bd B0 w p m A c g) (hB : B1 ≤ B0) : Bd B1 w p m A c g :=
  ⟨h.blk, Nat.le_trans hB h.hp, Nat.le_trans hB h.hm, ⟨h.own.1, h.own.2.imp id (fun ⟨g, cap, cur, h1, h2, h3⟩ => ⟨g, cap, cur, h1, by omega, h3⟩)⟩, h.map⟩
theorem SlW.cell_fr {w w' : World} {B0 b o c : Nat} {ws : List (List Int)} {ts ms : List Nat} (h : SlW w B0 (some ⟨b, o, none⟩) c ws) (hf : Fr B0 ts ms w w') (h24 : 24 ∉ ts) {k : Nat} (hk : k < ws.length) {v : Value}
    (hc : w.cell? ⟨b, o + k, none⟩ = some v) : w'.cell? ⟨b, o + k, none⟩ = some v := by
  obtain ⟨sv, h1, h2, _⟩ := h
  have hx : sv[k]? = some sv[k] := List.getElem?_eq_getElem (by omega)
  rw [h2.cell hx] at hc
  rw [(h2.fr hf h24).cell hx]
  exact hc

theorem sumF_spec {g : GS} {x y : List Int} {c : Int} (hx : areLit g x) (hy : areLit g y) (hc : isLit g c) (h9 : x.length ≤ 9) (hn : g.nodes + 81 ≤ 65536) :
    Grew 81 g (sumF g x y c).g ∧ areLit (sumF g x y c).g (sumF g x y c).out ∧ isLit (sumF g x y c).g (sumF g x y c).c ∧ (sumF g x y c).out.length = x.length := by
  obtain ⟨h1, h2, h3⟩ := sumK_spec hx hy hc x.length (by omega)
  exact ⟨h1.mono (by omega), h2, h3, sumK_length _ _ _ _ _⟩
theorem addF_spec {g : GS} {x y : List Int} (h : okW x y) (hx : areLit g x) (hy : areLit g y) (hn : g.nodes + 81 ≤ 65536) :
    Grew 81 g (addF g x y).g ∧ areLit (addF g x y).g (addF g x y).out ∧ (addF g x y).out.length = x.length := by
  obtain ⟨h1, h2, _, h4⟩ := sumF_spec hx hy (lit_zero g) (by have := h.2.1; omega) hn
  rw [show addF g x y = ⟨(sumF g x y 0).g, (sumF g x y 0).out⟩ from if_pos h]
  exact ⟨h1, h2, h4⟩

def g6 : GS := ⟨6, []⟩
theorem g6_wf : GWf g6 := ⟨by decide, by decide, fun i p h => by simp [g6] at h, by simp [g6]⟩
def awakeBits : List Bool := [true, false, true, true, false, false]
theorem awake_value : valueF 0 ((addF g6 [2, 4, 6] [8, 10, 12]).out.map (litV (valuesF (addF g6 [2, 4, 6] [8, 10, 12]).g awakeBits))) = -2 := by decide
theorem awake_words : wordsF 3 [1, 0] 2 = [[2], [4, 6, 8]] := by decide
theorem awake_pos : posN 3 [1, 0] 2 = 4 := by decide
theorem awake_bits : bitsF 3 [1, 0] [1, -3] 2 = [true, true, false, true] := by decide
theorem awake_const : constF 3 (-3) = [1, 0, 1] := by decide

theorem awake_in : allIn 3 [1, 0] [1, -3] 2 := fun j x y hj hx hy => by
  match j with
  | 0 => simp at hx hy; subst hx hy; exact .inr ⟨rfl, .inr rfl⟩
  | 1 => simp at hx hy; subst hx hy; exact .inl ⟨rfl, by decide⟩
  | j + 2 => omega

theorem words_31 (w : World) (B0 : Nat) (A : Option Addr) (hB : B0 ≤ w.heap.size) (hs : SlI w B0 A 2 [1, 0]) :
    Calls Try.prog 29 #[.int .i64 3, .slice A 2 2] w fun e w' => ∃ A c, e = .returned (.tuple #[.slice A 2 c, .int .i64 4, .int .i64 0]) ∧ SlW w' B0 A c [[2], [4, 6, 8]] ∧ Below w.heap.size w w' := by
  refine (words_yes 3 [1, 0] A 2 B0 w hB (by decide) hs).mono ?_
  rintro e w' ⟨A', c', rfl, h1, h2⟩
  have e1 : wordsF 3 [1, 0] ([1, 0] : List Int).length = [[2], [4, 6, 8]] := awake_words
  have e2 : posN 3 [1, 0] ([1, 0] : List Int).length = 4 := awake_pos
  rw [e1] at h1 ⊢
  rw [e2]
  exact ⟨A', c', rfl, h1, h2⟩
theorem bits_31 (w : World) (B0 : Nat) (A A' : Option Addr) (hB : B0 ≤ w.heap.size) (hs : SlI w B0 A 2 [1, 0]) (hs' : SlI w B0 A' 2 [1, -3]) :
    Calls Try.prog 26 #[.int .i64 3, .slice A 2 2, .slice A' 2 2] w fun e w' => ∃ A c, e = .returned (.tuple #[.slice A 4 c, .int .i64 0]) ∧ SlB w' B0 A c [true, true, false, true] ∧ Below w.heap.size w w' := by
  refine (bits_yes 3 [1, 0] [1, -3] A A' 2 2 B0 w hB (by decide) rfl hs hs').mono ?_
  rintro e w' (⟨_, v, rfl, h1, h2⟩ | ⟨h, _⟩)
  · have e1 : bitsF 3 [1, 0] [1, -3] ([1, 0] : List Int).length = [true, true, false, true] := awake_bits
    rw [e1] at h1
    obtain ⟨A, c, rfl, hs⟩ := h1.sl B0
    exact ⟨A, c, rfl, hs, h2⟩
  · exact absurd awake_in h
theorem const_31 (w : World) (B0 : Nat) : Calls Try.prog 24 #[.int .i64 3, .int .i64 (-3)] w fun e w' => ∃ A c, e = .returned (.slice A 3 c) ∧ SlI w' B0 A c [1, 0, 1] ∧ Below w.heap.size w w' := by
  refine (Constant_any 3 (-3) w).mono ?_
  rintro e w' ⟨v, rfl, h1, h2⟩
  rw [awake_const] at h1
  obtain ⟨A, c, rfl, hs⟩ := h1.sl B0
  exact ⟨A, c, rfl, hs, h2⟩

theorem two_new (w : World) (B0 : Nat) (xs ys : List Int) (hx : xs.length ≤ 100) (hy : ys.length ≤ 100) :
    SlI ((w.alloc (.cells (xs.map (Value.int .i64)).toArray 3)).alloc (.cells (ys.map (Value.int .i64)).toArray 3)) B0 (some ⟨w.heap.size, 0, none⟩) xs.length xs ∧
    SlI ((w.alloc (.cells (xs.map (Value.int .i64)).toArray 3)).alloc (.cells (ys.map (Value.int .i64)).toArray 3)) B0 (some ⟨w.heap.size + 1, 0, none⟩) ys.length ys := by
  refine ⟨(sl_new (Value.int .i64) 3 w B0 xs (by omega)).alloc _, ?_⟩
  have h := sl_new (Value.int .i64) 3 (w.alloc (.cells (xs.map (Value.int .i64)).toArray 3)) B0 ys (by omega)
  have e : (w.alloc (.cells (xs.map (Value.int .i64)).toArray 3)).heap.size = w.heap.size + 1 := by simp
  rw [e] at h
  exact h

theorem below_of1 {w w' : World} {o : Obj} (h : Below (w.alloc o).heap.size (w.alloc o) w') : Below w.heap.size w w' := (below_alloc w o).trans (h.mono (by simp))
theorem below_of2 {w w' : World} {o o' : Obj} (h : Below ((w.alloc o).alloc o').heap.size ((w.alloc o).alloc o') w') : Below w.heap.size w w' := below_of1 (below_of1 h)

set_option maxHeartbeats 4000000 in
theorem awake_any (w : World) : Calls Try.prog 22 #[] w fun e w' => e = .returned (.bool true) ∧ Below w.heap.size w w' := by
  obtain ⟨G, hG⟩ : ∃ G, addF g6 [2, 4, 6] [8, 10, 12] = G := ⟨_, rfl⟩
  have l1 : areLit g6 [2, 4, 6] := by intro x hx; simp at hx; rcases hx with rfl | rfl | rfl <;> exact ⟨by decide, by decide⟩
  have l2 : areLit g6 [8, 10, 12] := by intro x hx; simp at hx; rcases hx with rfl | rfl | rfl <;> exact ⟨by decide, by decide⟩
  have hs := addF_spec (g := g6) (x := [2, 4, 6]) (y := [8, 10, 12]) (by decide) l1 l2 (by decide)
  have hv := awake_value
  rw [hG] at hs hv
  have HG := Lib.hid hG
  have HS := Lib.hid hs
  obtain ⟨R, hR⟩ : ∃ R, G.out.map (litV (valuesF G.g awakeBits)) = R := ⟨_, rfl⟩
  rw [hR] at hv
  have HR := Lib.hid hR
  have HV := Lib.hid hv
  have L1 := Lib.hid l1
  have L2 := Lib.hid l2
  have WF := Lib.hid (hs.1.wf g6_wf)
  have IN : Hid (G.g.inputs = 6) := hs.1.inputs
  have LN : Hid (G.out.length = 3) := hs.2.2
  have ND : Hid (G.g.nodes ≤ 65536) := WF.out.size
  clear hG hs hv l1 l2 hR
  have eI1 : equalIB [2] [2] = true := rfl
  have eI2 : equalIB [4, 6, 8] [4, 6, 8] = true := rfl
  have eI3 : equalIB [1, 0, 1] [1, 0, 1] = true := rfl
  have eB : equalBB [true, true, false, true] [true, true, false, true] = true := rfl
  have EI := Lib.hid (And.intro eI1 (And.intro eI2 (And.intro eI3 eB)))
  clear eI1 eI2 eI3 eB
  go_enter Try.func22, Try.ntmps22
  go_wp2_with (first
    | (go_at_call 29; refine (words_31 _ w.heap.size _ (by simp) (sl_new (Value.int .i64) 3 w w.heap.size [1, 0] (by simp))).mono ?_; rintro e w1 ⟨A1, c1, rfl, hs1, hb1⟩; have HB1 : Hid (Below w.heap.size w w1) := below_of1 hb1; have HW1 := Lib.hid hs1; clear hs1 hb1)
    | (go_at_call 26; have _t := HB1; have h2 := two_new w1 w.heap.size [1, 0] [1, -3] (by simp) (by simp); refine (bits_31 _ w.heap.size _ _ (by have := HB1.out.size; simp; omega) h2.1 h2.2).mono ?_; clear h2; rintro e w2 ⟨A2, c2, rfl, hs2, hb2⟩; have hb12 : Below w1.heap.size w1 w2 := below_of2 hb2; have HB2 : Hid (Below w.heap.size w w2) := HB1.out.trans (hb12.mono HB1.out.size); have HW2 := Lib.hid (HW1.out.below hb12); have HS2 := Lib.hid hs2; clear hs2 hb2 hb12 HB1 HW1)
    | (go_at_call 36; refine (new_any 6 _ (by decide)).mono ?_; rintro e w3 ⟨p, m, rfl, hbd3, hb3⟩; have HB3 : Hid (Below w.heap.size w w3) := HB2.out.trans (hb3.mono HB2.out.size); have HBD3 : Hid (Bd w.heap.size w3 p m none 0 g6) := hbd3.mono HB2.out.size; have HW3 := Lib.hid (HW2.out.below hb3); have HS3 := Lib.hid (HS2.out.below hb3); clear hbd3 hb3 HB2 HW2 HS2)
    | (go_at_call 40; have _t := HB3; have h2 := two_new w3 w.heap.size [2, 4, 6] [8, 10, 12] (by simp) (by simp); refine (add_any (B0 := w.heap.size) (A := none) (c := 0) (g := g6) (xs := [2, 4, 6]) (ys := [8, 10, 12]) (by have := HB3.out.size; simp; omega) ((HBD3.out.below (below_alloc _ _)).below (below_alloc _ _)) g6_wf (by decide) L1.out L2.out h2.1 h2.2).mono ?_; clear h2; rintro e w4 ⟨v4, A4, c4, rfl, ho4, hbd4, hf4⟩; rw [HG.out] at ho4 hbd4; have hf34 : Fr w.heap.size [116, 123] [m] w3 w4 := ((Fr.of_below (below_alloc _ _)).trans (Fr.of_below (below_alloc _ _))).trans hf4; obtain ⟨A5, c5, rfl, hs5⟩ := ho4.sl w.heap.size; have HB4 : Hid (Below w.heap.size w w4) := HB3.out.trans (hf34.below HB3.out.size); have HBD4 := Lib.hid hbd4; have HO4 := Lib.hid hs5; have HW4 := Lib.hid (HW3.out.fr hf34 (by decide) (by decide)); have HS4 := Lib.hid (HS3.out.fr hf34 (by decide)); clear ho4 hbd4 hf4 hf34 hs5 HB3 HBD3 HW3 HS3)
    | (go_at_call 50; have _t := HB4; refine (circuit_any w.heap.size p m A4 c4 G.g _ HBD4.out ND.out).mono ?_; rintro e w5 ⟨A6, c6, rfl, hown5, hb5⟩; have HC5 := Lib.hid (CirIn.of_own hown5); have HB5 : Hid (Below w.heap.size w w5) := HB4.out.trans (hb5.mono HB4.out.size); have HO5 := Lib.hid (HO4.out.below hb5); have HW5 := Lib.hid (HW4.out.below hb5); have HS5 := Lib.hid (HS4.out.below hb5); clear hown5 hb5 HB4 HBD4 HO4 HW4 HS4)
    | (go_at_call 49; have _t := HB5; refine (geval_any G.g A6 c6 awakeBits (some ⟨w5.heap.size, 0, none⟩) 6 G.out A5 c5 w.heap.size _ (by have := HB5.out.size; simp; omega) WF.out (HC5.out.below (below_alloc _ _)) (sl_new Value.bool 4 w5 w.heap.size awakeBits (by simp [awakeBits])) IN.out.symm (HO5.out.below (below_alloc _ _)) HS.out.2.1 (by rw [LN.out]; decide)).mono ?_; rintro e w6 ⟨v6, rfl, ho6, hb6⟩; rw [HR.out] at ho6; obtain ⟨A7, c7, rfl, hs7⟩ := ho6.sl w.heap.size; have hb56 := below_of1 hb6; have hw6 := HW5.out.below hb56; have HB6 : Hid (Below w.heap.size w w6) := HB5.out.trans (hb56.mono HB5.out.size); have HO6 := Lib.hid hs7; have HS6 := Lib.hid (HS5.out.below hb56); obtain ⟨b, o, x, A8, c8, hA8, hx, hc8, hs8⟩ := hw6.at_ (k := 0) (by decide); obtain ⟨b', o', x', A9, c9, hA9, hx', hc9, hs9⟩ := hw6.at_ (k := 1) (by decide); subst hA8; cases hA9; cases hx; cases hx'; have hd8 : w6.cell? ⟨b, o, none⟩ = some (.slice A8 1 c8) := hc8; have hd9 : w6.cell? ⟨b, o + 1, none⟩ = some (.slice A9 3 c9) := hc9; have HW6 := Lib.hid hw6; have HS8 := Lib.hid hs8; have HS9 := Lib.hid hs9; clear hc8 hc9 hs8 hs9 hw6 ho6 hb6 hb56 hs7 HB5 HO5 HW5 HS5 HC5)
    | (go_at_call_of 92 (Value.slice A8 1 c8); refine (equalI_any [2] [2] A8 (some ⟨w6.heap.size, 0, none⟩) c8 1 w.heap.size _ (HS8.out.alloc _) (sl_new (Value.int .i64) 3 w6 w.heap.size [2] (by simp))).mono ?_; rintro e w7 ⟨rfl, n, hw7⟩; rw [EI.out.1]; have hf7 : Fr w.heap.size [116, 123] [m] w6 w7 := by rw [hw7]; exact (Fr.of_below (below_alloc _ _)).drewN n
       have HF7 := Lib.hid hf7; have he9 := HW6.out.cell_fr hf7 (by decide) (k := 1) (by decide) hd9; clear hw7 hd9 hd8 hf7)
    | (go_at_call_of 92 (Value.slice A9 3 c9); refine (equalI_any [4, 6, 8] [4, 6, 8] A9 (some ⟨w7.heap.size, 0, none⟩) c9 3 w.heap.size _ ((HS9.out.fr HF7.out (by decide)).alloc _) (sl_new (Value.int .i64) 3 w7 w.heap.size [4, 6, 8] (by simp))).mono ?_; rintro e w8 ⟨rfl, n, hw8⟩; rw [EI.out.2.1]; have HF8 : Hid (Fr w.heap.size [116, 123] [m] w6 w8) := by rw [hw8]; exact (HF7.out.trans (Fr.of_below (below_alloc _ _))).drewN n
       clear hw8 HF7)
    | (go_at_call 28; refine (equalB_any [true, true, false, true] [true, true, false, true] A2 (some ⟨w8.heap.size, 0, none⟩) c2 4 w.heap.size _ ((HS6.out.fr HF8.out (by decide)).alloc _) (sl_new Value.bool 4 w8 w.heap.size [true, true, false, true] (by simp))).mono ?_; rintro e w9 ⟨rfl, n, hw9⟩; rw [EI.out.2.2.2]; have HF9 : Hid (Fr w.heap.size [116, 123] [m] w6 w9) := by rw [hw9]; exact (HF8.out.trans (Fr.of_below (below_alloc _ _))).drewN n
       clear hw9 HF8)
    | (go_at_call 24; refine (const_31 _ w.heap.size).mono ?_; rintro e w10 ⟨A10, c10, rfl, hs10, hb10⟩; have HS10 := Lib.hid hs10; have HF10 : Hid (Fr w.heap.size [116, 123] [m] w6 w10) := HF9.out.trans (Fr.of_below hb10); clear hs10 hb10 HF9)
    | (go_at_call_of 92 (Value.slice A10 3 c10); refine (equalI_any [1, 0, 1] [1, 0, 1] A10 (some ⟨w10.heap.size, 0, none⟩) c10 3 w.heap.size _ (HS10.out.alloc _) (sl_new (Value.int .i64) 3 w10 w.heap.size [1, 0, 1] (by simp))).mono ?_; rintro e w11 ⟨rfl, n, hw11⟩; rw [EI.out.2.2.1]; have HF11 : Hid (Fr w.heap.size [116, 123] [m] w6 w11) := by rw [hw11]; exact (HF10.out.trans (Fr.of_below (below_alloc _ _))).drewN n
       clear hw11 HF10)
    | (go_at_call 27; refine (value_any 0 R A7 c7 w.heap.size _ (HO6.out.fr HF11.out (by decide))).mono ?_; rintro e w12 ⟨rfl, rfl⟩; rw [HV.out]))
  go_ret
  exact ⟨rfl, HB6.out.trans (HF11.out.below HB6.out.size)⟩
end Go.Proofs.Ytgmcajojigedaaa
