/- The walk of the law BitvecMakes. -/
import Derived.Test.YtgmcajojigedaaaWc
import Derived.Test.YtgmcajojigedaaaVb
set_option linter.unusedSimpArgs false
set_option linter.unusedVariables false
namespace Go.Proofs.Ytgmcajojigedaaa
open Go.RowKit

theorem SlT.keepb {w w' : World} {A : Option Addr} {c : Nat} {l : List Tm} (h : SlT w A c l) (hk : ∀ b, A = some ⟨b, 0, none⟩ → w'.heap[b]? = w.heap[b]?) (hA : RA A c) : SlT w' A c l := by
  refine ⟨h.1, h.2.1, fun hn => ?_⟩
  obtain ⟨b, o, he, hc⟩ := h.2.2 hn
  refine ⟨b, o, he, fun k t hkt => ?_⟩
  have hb : w'.heap[b]? = w.heap[b]? := by
    rcases hA with ⟨h0, _⟩ | ⟨b', h1⟩
    · rw [he] at h0; cases h0
    · have e := he.symm.trans h1
      cases e
      exact hk _ he
  obtain ⟨a0, a1, a2, a3, a4⟩ := hc k t hkt
  have key : ∀ o v, w.cell? ⟨b, o, none⟩ = some v → w'.cell? ⟨b, o, none⟩ = some v := fun o v h => (World.cell?_of_block (w := w) hb).trans h
  exact ⟨key _ _ a0, key _ _ a1, key _ _ a2, key _ _ a3, key _ _ a4⟩
/-- The table and the reference's table side by side. -/
structure MK (B0 B9 p m : Nat) (q : Int) (T U : TS) (w : World) (A : Option Addr) (c : Nat) (Ar : Option Addr) (cr : Nat) : Prop where
  tb : Tb B0 w p m A c T
  box : w.heap[B9]? = some (.cells #[.int .i64 q, .slice Ar U.nodes.length cr] 66 (0, 0))
  sl : SlT w Ar cr U.nodes
  ra : RA Ar cr
  n9 : B9 ≠ p ∧ B9 ≠ m
  sep : ∀ b, Ar = some ⟨b, 0, none⟩ → b ≠ p ∧ b ≠ m ∧ b ≠ B9 ∧ b < w.heap.size ∧ ∀ a, A = some a → b ≠ a.block
section
variable {B0 B9 p m : Nat} {q : Int} {T U : TS} {w w' : World} {A : Option Addr} {c : Nat} {Ar : Option Addr} {cr : Nat}
theorem MK.below (h : MK B0 B9 p m q T U w A c Ar cr) (hb : Below w.heap.size w w') : MK B0 B9 p m q T U w' A c Ar cr :=
  ⟨h.tb.below hb, (hb.block _ (lt_of_some h.box)).trans h.box, h.sl.below hb, h.ra, h.n9, fun b hb' => let ⟨h1, h2, h3, h4, h5⟩ := h.sep b hb'; ⟨h1, h2, h3, Nat.lt_of_lt_of_le h4 hb.size, h5⟩⟩
theorem MK.row9 (h : MK B0 B9 p m q T U w A c Ar cr) : ∀ a, A = some a → B9 ≠ a.block := fun a ha e => by
  have ho := h.tb.own
  rcases ho.2 with ⟨h0, _⟩ | ⟨g, cap, cur, h1, h2, h3, _⟩
  · rw [ha] at h0; cases h0
  · rw [ha] at h1
    injection h1 with h1
    injection h1 with h1
    subst h1
    have : w.heap[B9]? = some (.cells cur 84 (0, 0)) := by rw [e]; exact h3
    rw [h.box] at this
    cases this
theorem MK.step {A' : Option Addr} {c' : Nat} {T' : TS} (h : MK B0 B9 p m q T U w A c Ar cr) (ht : Tb B0 w' p m A' c' T') (hf : TFr p m A w w') (hr : RowOf w A A') : MK B0 B9 p m q T' U w' A' c' Ar cr := by
  refine ⟨ht, hf.block _ _ h.box h.n9.1 h.n9.2 h.row9, h.sl.keepb (fun b hb => ?_) h.ra, h.ra, h.n9, fun b hb => ?_⟩
  · obtain ⟨h1, h2, h3, h4, h5⟩ := h.sep b hb
    obtain ⟨o, ho⟩ := some_of_lt h4
    exact (hf.block _ _ ho h1 h2 h5).trans ho.symm
  · obtain ⟨h1, h2, h3, h4, h5⟩ := h.sep b hb
    refine ⟨h1, h2, h3, Nat.lt_of_lt_of_le h4 hf.size, fun a ha e => ?_⟩
    rcases hr a ha with ⟨a0, ha0, e0⟩ | hn
    · exact h5 a0 ha0 (e.trans e0.symm)
    · omega
theorem two_set_heap {W : World} {b t : Nat} {c0 c1 : Value} (x y : Value) (hb : W.heap[b]? = some (.cells #[c0, c1] t (0, 0))) : ((W.setCell ⟨b, 0, none⟩ x).setCell ⟨b, 1, none⟩ y).heap[b]? = some (.cells #[x, y] t (0, 0)) := by
  rw [setCell_eq_setRow W b 0 _ t (0, 0) x hb]
  have h2 := setRow_heap W b _ (#[c0, c1].setIfInBounds 0 x) t (0, 0) hb
  rw [setCell_eq_setRow _ b 1 _ t (0, 0) y h2]
  exact setRow_heap _ b _ _ t (0, 0) h2
theorem MK.set {w4 : World} {A5 : Option Addr} {c5 : Nat} {U' : TS} (h : MK B0 B9 p m q T U w4 A c Ar cr) (hB : B0 ≤ B9) (hb : Below w4.heap.size w4 w) (hs : SlT w A5 c5 U'.nodes) (hn : (A5 = Ar ∧ c5 = cr) ∨ ∃ g, A5 = some ⟨g, 0, none⟩ ∧ w4.heap.size ≤ g ∧ g < w.heap.size) :
    MK B0 B9 p m q T U' ((w.setCell ⟨B9, 0, none⟩ (.int .i64 q)).setCell ⟨B9, 1, none⟩ (.slice A5 U'.nodes.length c5)) A c A5 c5 := by
  have h5 := h.below hb
  have hg : ∀ g, A5 = some ⟨g, 0, none⟩ → g < w.heap.size := fun g hgA => by
    rcases hn with ⟨rfl, rfl⟩ | ⟨g', rfl, _, h⟩
    · have := (h.sep g hgA).2.2.2.1; have := hb.size; omega
    · cases hgA; exact h
  have hlt9 := lt_of_some h.box
  have hF : Fr B0 [66] [] w ((w.setCell ⟨B9, 0, none⟩ (.int .i64 q)).setCell ⟨B9, 1, none⟩ (.slice A5 U'.nodes.length c5)) :=
    ((Fr.refl _ _ _ _).setCell (p := ⟨B9, 0, none⟩) h5.box (by simp) hB _).setCell (p := ⟨B9, 1, none⟩) (by rw [setCell_eq_setRow _ B9 0 _ 66 (0, 0) _ h5.box]; exact setRow_heap _ B9 _ _ 66 (0, 0) h5.box) (by simp) hB _
  have hra : RA A5 c5 := by
    rcases hn with ⟨rfl, rfl⟩ | ⟨g, rfl, _, _⟩
    · exact h.ra
    · exact .inr ⟨g, rfl⟩
  have hne : ∀ b, A5 = some ⟨b, 0, none⟩ → b ≠ B9 := fun b hb' => by
    rcases hn with ⟨rfl, rfl⟩ | ⟨g, rfl, hgl, _⟩
    · exact (h.sep b hb').2.2.1
    · cases hb'; omega
  refine ⟨h5.tb.fr hF (by decide) (by decide) (by simp), two_set_heap _ _ h5.box, hs.keepb (fun b hb' => ?_) hra, hra, h.n9, fun b hb' => ?_⟩
  · rw [Below.heap_setCell _ _ _ _ (hne b hb'), Below.heap_setCell _ _ _ _ (hne b hb')]
  · have hz : ((w.setCell ⟨B9, 0, none⟩ (.int .i64 q)).setCell ⟨B9, 1, none⟩ (.slice A5 U'.nodes.length c5)).heap.size = w.heap.size := by simp [World.setCell]
    rcases hn with ⟨rfl, rfl⟩ | ⟨g, rfl, hgl, _⟩
    · obtain ⟨h1, h2, h3, h4, h6⟩ := h.sep b hb'
      exact ⟨h1, h2, h3, by rw [hz]; have := hb.size; omega, h6⟩
    · cases hb'
      have hp := lt_of_some h.tb.blk
      have hm := lt_of_some h.tb.map
      refine ⟨by omega, by omega, by omega, by rw [hz]; have := hg _ rfl; omega, fun a ha e => ?_⟩
      have := World.ownsRow.lt h.tb.own a.block (by rw [ha]; rfl)
      omega
end

set_option maxRecDepth 100000 in
set_option maxHeartbeats 4000000 in
theorem makes_yes (q : Int) (l : List Tm) (i : Int) (A : Option Addr) (c : Nat) (w : World) (h1 : 2 ≤ q) (h2 : q ≤ 8) (hl : l.length ≤ 40) (hs : SlT w A c l) :
    Calls Try.prog 18 #[.int .i64 q, .slice A l.length c, .int .i64 i] w fun e w' => e = .returned (.bool true) ∧ Below w.heap.size w w' := by
  have HS := Lib.hid hs
  have d1 : decide ((l.length : Int) > 40) = false := decide_eq_false (by omega)
  have d1' : decide (40 < l.length) = false := decide_eq_false (by omega)
  clear hs
  go_enter Try.func18, Try.ntmps18
  go_wp2_with (first
    | (go_at_call 76; go_must (refine (awake22 _).mono ?_; rintro e w1 ⟨rfl, hb1⟩; have HB1 := Lib.hid hb1; clear hb1))
    | (go_at_call 86; go_must (refine (tnew_yes q w1 h1 h2).mono ?_; rintro e w2 ⟨p, m, rfl, ht, hb2⟩; have HT2 := Lib.hid (ht.mono HB1.out.size); have HB2 : Hid (Below w.heap.size w w2) := HB1.out.trans (hb2.mono HB1.out.size); clear ht hb2))
    | (go_at_call 23; go_must (refine (isWidth_yes _ _ h1 h2).mono ?_; rintro e w' ⟨rfl, rfl⟩))
    | (go_at_call 87; go_must (refine (twidth_any (HT2.out.below (below_alloc w2 (.cells #[.int .i64 q, .slice none 0 0] 66)))).mono ?_; rintro e w' ⟨rfl, rfl⟩)))
  have hmk0 : MK w.heap.size w2.heap.size p m q (buildK q l 0) (buildK q l 0) (w2.alloc (.cells #[.int .i64 q, .slice none 0 0] 66)) none 0 none 0 := by
    have hp := lt_of_some HT2.out.blk
    have hm := lt_of_some HT2.out.map
    exact ⟨HT2.out.below (below_alloc _ _), heap_alloc_new w2 _, ⟨Nat.le_refl _, by omega, fun h => absurd h (by simp [buildK])⟩, .inl ⟨rfl, rfl⟩, ⟨by omega, by omega⟩, fun b hb => by cases hb⟩
  have HB3 : Hid (Below w.heap.size w (w2.alloc (.cells #[.int .i64 q, .slice none 0 0] 66))) := HB2.out.trans ((below_alloc _ _).mono HB2.out.size)
  have H9 : Hid (w.heap.size ≤ w2.heap.size) := HB2.out.size
  have HMK0 := Lib.hid hmk0
  clear hmk0 HT2 HB1 d1 d1'
  go_loopw [52] (fun u wr => ∃ j : Nat, j ≤ l.length ∧ u = .int .i64 j ∧ (∃ A' c' Ar cr, MK w.heap.size w2.heap.size p m q (buildK q l j) (buildK q l j) wr A' c' Ar cr) ∧ Below w.heap.size w wr) (fun u _ => l.length - (intOf u).toNat)
  case atStart => exact ⟨0, Nat.zero_le _, rfl, ⟨none, 0, none, 0, HMK0.out⟩, HB3.out⟩
  case round =>
    obtain ⟨j, hj, rfl, ⟨A', c', Ar, cr, hmk⟩, hbr⟩ := hrel
    rename_i wr
    have HBR := Lib.hid hbr
    have WF := Lib.hid (buildK_wf h1 h2 l j)
    have hwid : (buildK q l j).width = q := buildF_width q (l.take j)
    by_cases hlt : j < l.length
    · have hx : l[j]? = some l[j] := List.getElem?_eq_getElem hlt
      obtain ⟨bb, o, hA, hcell⟩ := (HS.out.below hbr).2.2 (by omega)
      subst hA
      obtain ⟨t, htk⟩ : ∃ t, l[j] = t := ⟨_, rfl⟩
      rw [htk] at hx
      obtain ⟨n0, n1, n2, n3, n4⟩ := hcell j t hx
      have HN : Hid (buildK q l (j + 1) = (makeF (buildK q l j) t).1) := buildK_succ hx
      have hltI : (j : Int) < (l.length : Int) := by omega
      obtain ⟨op, v, x, y, z⟩ := t
      dsimp only at n0 n1 n2 n3 n4
      obtain ⟨T, hT⟩ : ∃ T, buildK q l j = T := ⟨_, rfl⟩
      rw [hT] at hmk WF hwid HN
      obtain ⟨T1, k1, e1, hR⟩ : ∃ T1 k1 e1, makeF T ⟨op, v, x, y, z⟩ = (T1, k1, e1) := ⟨_, _, _, rfl⟩
      have hwid1 : T1.width = q := by have := makeF_width T ⟨op, v, x, y, z⟩; rw [hR] at this; exact this.trans hwid
      rw [hR] at HN
      have HR := Lib.hid hR
      have HMK := Lib.hid hmk
      have HK3 := Lib.hid (hmk.below (below_alloc wr (.cells #[.int .i64 op, .int .i64 v, .int .i64 x, .int .i64 y, .int .i64 z] 84)))
      have hrm := fun (w4 : World) (Ar : Option Addr) (cr : Nat) (h : SlT w4 Ar cr T.nodes) (hra : RA Ar cr) => rmake_any h hra WF.out ⟨op, v, x, y, z⟩
      rw [hwid, hR] at hrm
      have HRM := Lib.hid hrm
      have HW1 := Lib.hid hwid1
      clear hbr hcell hx htk hmk hT hR hwid hwid1 hrm
      go_wp2_with (first
        | (go_at_call 84; go_must (refine (make_any (B0 := w.heap.size) (by have := HBR.out.size; simp; omega) HK3.out.tb WF.out ⟨op, v, x, y, z⟩).mono ?_; rw [HR.out]; rintro e w4 ⟨A4, c4, rfl, ht, hf, hr⟩; have hk4 := HK3.out.step ht hf hr; have hp := lt_of_some HMK.out.tb.blk; have hm := lt_of_some HMK.out.tb.map; have hxb := hf.block wr.heap.size _ (heap_alloc_new wr (.cells #[.int .i64 op, .int .i64 v, .int .i64 x, .int .i64 y, .int .i64 z] 84)) (by omega) (by omega) (fun a ha e => (by have := World.ownsRow.lt HMK.out.tb.own a.block (by rw [ha]; rfl); omega)); have k0 : w4.cell? ⟨wr.heap.size, 0, none⟩ = some (.int .i64 op) := (by simp [World.cell?, hxb]); have k1 : w4.cell? ⟨wr.heap.size, 1, none⟩ = some (.int .i64 v) := (by simp [World.cell?, hxb]); have k2 : w4.cell? ⟨wr.heap.size, 2, none⟩ = some (.int .i64 x) := (by simp [World.cell?, hxb]); have k3 : w4.cell? ⟨wr.heap.size, 3, none⟩ = some (.int .i64 y) := (by simp [World.cell?, hxb]); have k4 : w4.cell? ⟨wr.heap.size, 4, none⟩ = some (.int .i64 z) := (by simp [World.cell?, hxb]); have q0 : w4.cell? ⟨w2.heap.size, 0, none⟩ = some (.int .i64 q) := (by simp [World.cell?, hk4.box]); have q1 : w4.cell? ⟨w2.heap.size, 1, none⟩ = some (.slice Ar T.nodes.length cr) := (by simp [World.cell?, hk4.box]); have HK4 := Lib.hid hk4; have HB4 : Hid (Below w.heap.size w w4) := (HBR.out.trans ((below_alloc wr (.cells #[.int .i64 op, .int .i64 v, .int .i64 x, .int .i64 y, .int .i64 z] 84)).mono HBR.out.size)).trans (hf.below HK3.out.tb (by have := HBR.out.size; simp; omega)); clear ht hf hr hk4 hxb hp hm))
        | (go_at_call 88; go_must (refine (HRM.out w4 Ar cr HK4.out.sl HK4.out.ra).mono ?_; rintro e w5 ⟨A5, c5, rfl, hs5, hn5, hb5⟩; rw [HW1.out]; have hbx := (hb5.block _ (lt_of_some HK4.out.box)).trans HK4.out.box; have p0 : w5.cell? ⟨w2.heap.size, 0, none⟩ = some (.int .i64 q) := (by simp [World.cell?, hbx]); have p1 : w5.cell? ⟨w2.heap.size, 1, none⟩ = some (.slice Ar T.nodes.length cr) := (by simp [World.cell?, hbx]); have pf : ∀ o, w5.frozen? ⟨w2.heap.size, o, none⟩ = false := (by simp [World.frozen?, hbx]); have plt := lt_of_some hbx; have HS5 := Lib.hid hs5; have HN5 := Lib.hid hn5; have HB5 := Lib.hid hb5; clear hs5 hn5 hb5 hbx q0 q1 k0 k1 k2 k3 k4)))
      have hk6 := (HK4.out.set H9.out HB5.out HS5.out HN5.out).below (below_alloc _ (.cells #[.int .i64 q, .slice A5 T1.nodes.length c5] 66))
      have hb66 := ((HB4.out.trans (HB5.out.mono HB4.out.size)).setCell (p := ⟨w2.heap.size, 0, none⟩) H9.out (.int .i64 q)).setCell (p := ⟨w2.heap.size, 1, none⟩) H9.out (.slice A5 T1.nodes.length c5)
      have HB6 : Hid (Below w.heap.size w (((w5.setCell ⟨w2.heap.size, 0, none⟩ (.int .i64 q)).setCell ⟨w2.heap.size, 1, none⟩ (.slice A5 T1.nodes.length c5)).alloc (.cells #[.int .i64 q, .slice A5 T1.nodes.length c5] 66))) := hb66.trans ((below_alloc _ _).mono hb66.size)
      clear hb66
      obtain ⟨w6, hw6⟩ : ∃ w6 : World, (((w5.setCell ⟨w2.heap.size, 0, none⟩ (.int .i64 q)).setCell ⟨w2.heap.size, 1, none⟩ (.slice A5 T1.nodes.length c5)).alloc (.cells #[.int .i64 q, .slice A5 T1.nodes.length c5] 66)) = w6 := ⟨_, rfl⟩
      rw [hw6] at hk6 HB6 ⊢
      have z1 : w6.cell? ⟨w2.heap.size, 1, none⟩ = some (.slice A5 T1.nodes.length c5) := by simp [World.cell?, hk6.box]
      have HK6 := Lib.hid hk6
      clear hw6 hk6 p0 p1 pf plt
      go_quiet ((go_at_call 57; exact quiet_left (tlen_any (HK6.out.tb.drewN _))))
      go_wp2
      go_roundw
      case rel => exact ⟨j + 1, by omega, by go_num, ⟨A4, c4, A5, c5, by rw [HN.out]; exact HK6.out.below (below_drewN (Below.refl _ _) nq)⟩, below_drewN HB6.out nq⟩
      case measure => simp [intOf]; omega
    · obtain rfl : j = l.length := by omega
      obtain ⟨T, hT⟩ : ∃ T, buildK q l l.length = T := ⟨_, rfl⟩
      rw [hT] at hmk WF hwid
      have HMK := Lib.hid hmk
      have hsz := WF.out.size
      have hz1 : wr.cell? ⟨w2.heap.size, 1, none⟩ = some (.slice Ar T.nodes.length cr) := by simp [World.cell?, hmk.box]
      have HZ1 := Lib.hid hz1
      clear hbr hmk hT hwid hz1
      rcases hn : nodeAt T i with _ | t
      · have hhas := nodeAt_none.1 hn
        have HH := Lib.hid hhas
        have hz0 : ∀ w, (binOp .eql 84 (.agg #[.int .i64 0, .int .i64 0, .int .i64 0, .int .i64 0, .int .i64 0]) (.agg #[.int .i64 0, .int .i64 0, .int .i64 0, .int .i64 0, .int .i64 0])).run Try.prog w = .ok (.bool true) w := fun w => by
          have := run_eql84 ⟨0, 0, 0, 0, 0⟩ ⟨0, 0, 0, 0, 0⟩ w
          exact this
        have key : i < 0 ∨ (0 ≤ i ∧ (T.nodes.length : Int) ≤ i) := by
          unfold hasB at hhas
          have := of_decide_eq_false hhas
          omega
        clear hn hhas
        rcases key with h | ⟨h, h'⟩
        · have e1 : decide (i < 0) = true := decide_eq_true h
          clear h
          go_wp2_with (first
            | (go_at_call 62; go_must (refine (node_no HMK.out.tb HH.out).mono ?_; unfold tagg; dsimp only; rintro e w7 ⟨rfl, hb7⟩; have hz7 := (hb7.cell (cell_lt HZ1.out)).trans HZ1.out; have HZ7 := Lib.hid hz7; have HB7 := Lib.hid hb7; clear hb7 hz7))
            | (go_at_call 60; go_must (refine (tsort_no ((HMK.out.tb.below HB7.out).below (below_alloc w7 (.cells #[.int .i64 0, .int .i64 0, .int .i64 0, .int .i64 0, .int .i64 0] 84))) HH.out).mono ?_; rintro e w8 ⟨rfl, hb8⟩; obtain ⟨hb8', -, k0, k1, k2, k3, k4⟩ := box84 (t := ⟨0, 0, 0, 0, 0⟩) hb8; dsimp only at k0 k1 k2 k3 k4; have hz8 := (hb8'.cell (cell_lt HZ7.out)).trans HZ7.out; have HB8 := Lib.hid ((HBR.out.trans (HB7.out.mono HBR.out.size)).trans (hb8'.mono (HBR.out.trans (HB7.out.mono HBR.out.size)).size)); clear hb8 hb8')))
          go_ret
          exact ⟨rfl, HB8.out⟩
        · have e1 : decide (i < 0) = false := decide_eq_false (by omega)
          have e2 : decide (i ≥ (T.nodes.length : Int)) = true := decide_eq_true h'
          clear h h'
          go_wp2_with (first
            | (go_at_call 62; go_must (refine (node_no HMK.out.tb HH.out).mono ?_; unfold tagg; dsimp only; rintro e w7 ⟨rfl, hb7⟩; have hz7 := (hb7.cell (cell_lt HZ1.out)).trans HZ1.out; have HZ7 := Lib.hid hz7; have HB7 := Lib.hid hb7; clear hb7 hz7))
            | (go_at_call 60; go_must (refine (tsort_no ((HMK.out.tb.below HB7.out).below (below_alloc w7 (.cells #[.int .i64 0, .int .i64 0, .int .i64 0, .int .i64 0, .int .i64 0] 84))) HH.out).mono ?_; rintro e w8 ⟨rfl, hb8⟩; obtain ⟨hb8', -, k0, k1, k2, k3, k4⟩ := box84 (t := ⟨0, 0, 0, 0, 0⟩) hb8; dsimp only at k0 k1 k2 k3 k4; have hz8 := (hb8'.cell (cell_lt HZ7.out)).trans HZ7.out; have HB8 := Lib.hid ((HBR.out.trans (HB7.out.mono HBR.out.size)).trans (hb8'.mono (HBR.out.trans (HB7.out.mono HBR.out.size)).size)); clear hb8 hb8')))
          go_ret
          exact ⟨rfl, HB8.out⟩
      · obtain ⟨k, rfl, hk⟩ := nodeAt_some hn
        have hlt := (List.getElem?_eq_some_iff.1 hk).1
        have hkI : (k : Int) < (T.nodes.length : Int) := by omega
        have e1 : decide ((k : Int) < 0) = false := decide_eq_false (by omega)
        have e2 : decide ((k : Int) ≥ (T.nodes.length : Int)) = false := decide_eq_false (by omega)
        have e2' : decide (T.nodes.length ≤ k) = false := decide_eq_false (by omega)
        have hop := op_bounds WF.out t (List.mem_of_getElem? hk)
        obtain ⟨so, hso⟩ : ∃ so, sortF t.op = so := ⟨_, rfl⟩
        have hrs : resF t.op = so := (if_pos hop).trans hso
        have HSO := Lib.hid hso
        have HRS := Lib.hid hrs
        have HK := Lib.hid hk
        have hrun : ∀ w, (binOp .eql 84 (tagg t) (tagg t)).run Try.prog w = .ok (.bool true) w := fun w => by
          have := run_eql84 t t w
          rw [decide_eq_true rfl] at this
          exact this
        have HRUN := Lib.hid hrun
        clear hn hk hlt hop hso hrs hrun
        obtain ⟨op, v, x, y, z⟩ := t
        unfold tagg at HRUN
        dsimp only at HSO HRS HRUN
        go_wp2_with (first
          | (go_at_call 62; go_must (refine (node_yes HMK.out.tb HK.out).mono ?_; unfold tagg; dsimp only; rintro e w7 ⟨rfl, hb7⟩; have hz7 := (hb7.cell (cell_lt HZ1.out)).trans HZ1.out; have HZ7 := Lib.hid hz7; have HB7 := Lib.hid hb7; clear hb7 hz7))
          | (go_at_call 60; go_must (refine (tsort_yes ((HMK.out.tb.below HB7.out).below (below_alloc w7 (.cells #[.int .i64 op, .int .i64 v, .int .i64 x, .int .i64 y, .int .i64 z] 84))) HK.out).mono ?_; rw [HSO.out]; rintro e w8 ⟨rfl, hb8⟩; obtain ⟨hb8', -, k0, k1, k2, k3, k4⟩ := box84 (t := ⟨op, v, x, y, z⟩) hb8; dsimp only at k0 k1 k2 k3 k4; have hz8 := (hb8'.cell (cell_lt HZ7.out)).trans HZ7.out; have HSL8 := Lib.hid ((HMK.out.sl.below HB7.out).below hb8'); have HB8 := Lib.hid ((HBR.out.trans (HB7.out.mono HBR.out.size)).trans (hb8'.mono (HBR.out.trans (HB7.out.mono HBR.out.size)).size)); clear hb8 hb8')))
        obtain ⟨bb, ob, hA, hcell⟩ := HSL8.out.2.2 (by omega)
        obtain ⟨n0, n1, n2, n3, n4⟩ := hcell k _ HK.out
        dsimp only at n0 n1 n2 n3 n4
        subst hA
        have hrun := HRUN.out
        clear hcell
        go_quiet ((go_at_call 75; exact quiet_left (result_v HRS.out _)))
        go_wp2
        go_ret
        exact ⟨rfl, below_drewN HB8.out nq⟩
set_option maxRecDepth 100000 in
theorem makes_walk (q : Int) (l : List Tm) (i : Int) (A : Option Addr) (c : Nat) (w : World) (hs : SlT w A c l) :
    Calls Try.prog 18 #[.int .i64 q, .slice A l.length c, .int .i64 i] w fun e w' => e = .returned (.bool true) ∧ Below w.heap.size w w' := by
  have hbig := hs.big
  by_cases h : q < 2 ∨ 8 < q
  · clear hs
    go_enter Try.func18, Try.ntmps18
    go_wp2_with (first
      | (go_at_call 76; go_must (refine (awake22 _).mono ?_; rintro e w1 ⟨rfl, hb1⟩; have HB1 := Lib.hid hb1; clear hb1))
      | (go_at_call 86; go_must (refine (tnew_no q _ h).mono ?_; rintro e w' ⟨rfl, rfl⟩))
      | (go_at_call 23; go_must (refine (isWidth_no _ _ h).mono ?_; rintro e w' ⟨rfl, rfl⟩)))
    go_ret
    exact ⟨rfl, HB1.out⟩
  · by_cases hl : l.length ≤ 40
    · exact makes_yes q l i A c w (by omega) (by omega) hl hs
    · have d1 : decide ((l.length : Int) > 40) = true := decide_eq_true (by omega)
      have d1' : decide (40 < l.length) = true := decide_eq_true (by omega)
      have h1 : 2 ≤ q := by omega
      have h2 : q ≤ 8 := by omega
      clear hs hl h
      go_enter Try.func18, Try.ntmps18
      go_wp2_with (first
        | (go_at_call 76; go_must (refine (awake22 _).mono ?_; rintro e w1 ⟨rfl, hb1⟩; have HB1 := Lib.hid hb1; clear hb1))
        | (go_at_call 86; go_must (refine (tnew_yes q w1 h1 h2).mono ?_; rintro e w2 ⟨p, m, rfl, ht, hb2⟩; have HB2 : Hid (Below w.heap.size w w2) := HB1.out.trans (hb2.mono HB1.out.size); clear ht hb2))
        | (go_at_call 23; go_must (refine (isWidth_yes _ _ h1 h2).mono ?_; rintro e w' ⟨rfl, rfl⟩)))
      go_ret
      exact ⟨rfl, HB2.out⟩
end Go.Proofs.Ytgmcajojigedaaa
