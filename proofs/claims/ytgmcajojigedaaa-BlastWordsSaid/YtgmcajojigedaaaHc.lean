/- The walk of the law BlastWords. -/
import Derived.Test.YtgmcajojigedaaaHb
namespace Go.Proofs.Ytgmcajojigedaaa
open Go.RowKit

def g24 : GS := ⟨24, []⟩
theorem g24_wf : GWf g24 := ⟨by decide, by decide, fun i p h => by simp [g24] at h, by simp [g24]⟩
theorem six_new (w : World) (B0 N : Nat) : SlI (w.alloc (.cells #[.int .i64 N, .int .i64 N, .int .i64 N, .int .i64 N, .int .i64 N, .int .i64 N] 3)) B0 (some ⟨w.heap.size, 0, none⟩) 6 (List.replicate 6 (N : Int)) :=
  sl_new (Value.int .i64) 3 w B0 (List.replicate 6 (N : Int)) (by simp)
theorem six_new0 (w : World) (B0 : Nat) : SlI (w.alloc (.cells #[.int .i64 0, .int .i64 0, .int .i64 0, .int .i64 0, .int .i64 0, .int .i64 0] 3)) B0 (some ⟨w.heap.size, 0, none⟩) 6 (List.replicate 6 ((0 : Nat) : Int)) :=
  sl_new (Value.int .i64) 3 w B0 (List.replicate 6 (0 : Int)) (by simp)

set_option maxRecDepth 10000 in
set_option maxHeartbeats 4000000 in
theorem words_a (xs ys : List Int) (A1 A2 : Option Addr) (c1 c2 : Nat) (w : World) (hx12 : xs.length ≤ 12) (hy12 : ys.length ≤ 12) (hc : xs.length < 1) (H1 : Hid (SlI w w.heap.size A1 c1 xs)) (H2 : Hid (SlI w w.heap.size A2 c2 ys)) :
    Calls Try.prog 5 #[.slice A1 xs.length c1, .slice A2 ys.length c2] w fun e w' => e = .returned (.bool true) ∧ Below w.heap.size w w' := by
  have hd1 : decide ((12 : Int) < xs.length) = false := decide_eq_false (by omega)
  have hd2 : decide ((12 : Int) < ys.length) = false := decide_eq_false (by omega)
  have hd3 : decide ((1 : Int) ≤ xs.length) = false := decide_eq_false (by omega)
  have hd3n : decide (1 ≤ xs.length) = false := decide_eq_false (by omega)
  obtain ⟨u, hu⟩ : ∃ u, litsF xs = u := ⟨_, rfl⟩
  obtain ⟨v, hv⟩ : ∃ v, litsF ys = v := ⟨_, rfl⟩
  have hul : u.length = xs.length := by rw [← hu, litsF_length]
  have hvl : v.length = ys.length := by rw [← hv, litsF_length]
  have hux : areLit g24 u := by rw [← hu]; exact litsF_lit _ rfl
  have hvx : areLit g24 v := by rw [← hv]; exact litsF_lit _ rfl
  have hok : ¬ okW u v := fun h => by have h1 := h.1; have h2 := h.2.1; have h3 := h.2.2; omega
  have hN : okN u v = 0 := if_neg hok
  obtain ⟨d, hd, hdg⟩ : ∃ d, divideF g24 u v = d ∧ d.g = g24 := ⟨⟨g24, [], []⟩, if_neg hok, rfl⟩
  obtain ⟨r1, h1, hg1⟩ : ∃ r, addF d.g u v = r ∧ r.g = g24 := ⟨⟨d.g, []⟩, if_neg hok, hdg⟩
  obtain ⟨r2, h2, hg2⟩ : ∃ r, subF r1.g u v = r ∧ r.g = g24 := ⟨⟨r1.g, []⟩, if_neg hok, hg1⟩
  obtain ⟨r3, h3, hg3⟩ : ∃ r, mulF r2.g u v = r ∧ r.g = g24 := ⟨⟨r2.g, []⟩, if_neg hok, hg2⟩
  obtain ⟨r4, h4, hg4⟩ : ∃ r, chooseF2 r3.g 2 u v = r ∧ r.g = g24 := ⟨⟨r3.g, []⟩, if_neg hok, hg3⟩
  obtain ⟨r5, h5, hg5, hz5⟩ : ∃ r, equalF r4.g u v = r ∧ r.g = g24 ∧ r.x = 0 := ⟨⟨r4.g, 0⟩, if_neg hok, hg4, rfl⟩
  obtain ⟨r6, h6, hg6, hz6⟩ : ∃ r, lessF r5.g u v = r ∧ r.g = g24 ∧ r.x = 0 := ⟨⟨r5.g, 0⟩, if_neg hok, hg5, rfl⟩
  have Z5 := Lib.hid hz5
  have Z6 := Lib.hid hz6
  have hok1 : ¬ okW1 u := fun h => by have h1 := h.1; have h2 := h.2; omega
  obtain ⟨r7, h7, hg7⟩ : ∃ r, negF r6.g u = r ∧ r.g = g24 := ⟨⟨r6.g, []⟩, if_neg hok1, hg6⟩
  have GG7 := Lib.hid hg7
  clear hg7
  clear hdg hg1 hg2 hg3 hg4 hg5 hg6 hz5 hz6
  have hN1 : okN1 u = 0 := if_neg hok1
  have UL := Lib.hid hul
  have VL := Lib.hid hvl
  have UX := Lib.hid hux
  have VX := Lib.hid hvx
  have U := Lib.hid hu
  have V := Lib.hid hv
  have HN := Lib.hid hN
  have HN1 := Lib.hid hN1
  have HD := Lib.hid hd
  have R1 := Lib.hid h1
  have R2 := Lib.hid h2
  have R3 := Lib.hid h3
  have R4 := Lib.hid h4
  have R5 := Lib.hid h5
  have R6 := Lib.hid h6
  have R7 := Lib.hid h7
  clear hc hok hok1 hul hvl hux hvx hu hv hN hN1 hd h1 h2 h3 h4 h5 h6 h7
  go_enter Try.func5, Try.ntmps5
  go_wp2_with (first
    | (go_at_call 22; refine (awake_any _).mono ?_; rintro e w1 ⟨rfl, hb1⟩; have HB1 := Lib.hid hb1; clear hb1)
    | (go_at_call 36; go_must (refine (new_any 24 w1 (by decide)).mono ?_; rintro e w2 ⟨p, m, rfl, hbd, hb2⟩; have HB2 : Hid (Below w.heap.size w w2) := HB1.out.trans (hb2.mono HB1.out.size); have E2 : Hid (Env w.heap.size p m g24 0 w2 g24) := (⟨HB2.out.size, ⟨none, 0, hbd.mono HB1.out.size⟩, g24_wf, Grew.refl _ _⟩ : Env w.heap.size p m g24 0 w2 g24); clear hbd hb2))
    | (go_at_call_of 37 (Value.slice A1 xs.length c1); go_must (refine (literals_any xs A1 c1 w.heap.size w2 hx12 (H1.out.below HB2.out)).mono ?_; rintro e w3 ⟨v3, rfl, ho, hb⟩; rw [U.out] at ho; obtain ⟨A3, c3, rfl, hs⟩ := ho.sl w.heap.size; rw [UL.out]; have HB3 := Lib.hid hb; have S3 := Lib.hid hs; clear ho hs hb))
    | (go_at_call_of 37 (Value.slice A2 ys.length c2); go_must (refine (literals_any ys A2 c2 w.heap.size w3 hy12 (H2.out.below (HB2.out.trans (HB3.out.mono HB2.out.size)))).mono ?_; rintro e w4 ⟨v4, rfl, ho, hb⟩; rw [V.out] at ho; obtain ⟨A4, c4, rfl, hs⟩ := ho.sl w.heap.size; rw [VL.out]; have HB24 : Hid (Below w2.heap.size w2 w4) := HB3.out.trans (hb.mono HB3.out.size); have HB4 : Hid (Below w.heap.size w w4) := HB2.out.trans (HB24.out.mono HB2.out.size); have SU := Lib.hid (S3.out.below hb); have SV := Lib.hid hs; have E4 := Lib.hid (E2.out.below HB24.out); clear ho hs hb))
    | (go_at_call 38; have _t := HB4; go_must (obtain ⟨Ab, cb, hbd⟩ := E4.out.bd; refine (len_any w.heap.size p m Ab cb g24 w4 hbd (by decide)).mono ?_; rintro e w5 ⟨rfl, hb⟩; have HB5 : Hid (Below w.heap.size w w5) := HB4.out.trans (hb.mono HB4.out.size); have HBS5 := Lib.hid hb; have E5 := Lib.hid (E4.out.below hb); have F5 : Hid (Fr w.heap.size [116, 123] [m] w4 w5) := Fr.of_below hb; clear hbd hb HB4 E4))
    | (go_at_call 39; go_must (refine (envA_divide E5.out (by decide) UL.out VL.out UX.out VX.out (SU.out.fr F5.out (by decide)) (SV.out.fr F5.out (by decide)) HN.out).mono ?_; rw [HD.out]; rintro e w6 ⟨Aq, cq, Ar, cr, rfl, hq, hr, -, -, hqx, hrx, hg, he, hf⟩; have G6 := Lib.hid hg; have E6 := Lib.hid he; have F6 : Hid (Fr w.heap.size [116, 123] [m] w4 w6) := F5.out.trans hf; clear hq hr hqx hrx hg he hf E5))
    | (go_at_call 40; have _t := F6; go_must (refine (envA_add E6.out (by decide) UL.out VL.out (G6.out.lits UX.out) (G6.out.lits VX.out) (SU.out.fr F6.out (by decide)) (SV.out.fr F6.out (by decide)) HN.out).mono ?_; rw [R1.out]; rintro e w7 ⟨A7, c7, rfl, -, hs, -, hx, hg, he, hf⟩; have G7 := Lib.hid (G6.out.trans hg); have E7 := Lib.hid he; have F7 : Hid (Fr w.heap.size [116, 123] [m] w4 w7) := F6.out.trans hf; clear hs hx hg he hf E6))
    | (go_at_call 41; have _t := F7; go_must (refine (envA_sub E7.out (by decide) UL.out VL.out (G7.out.lits UX.out) (G7.out.lits VX.out) (SU.out.fr F7.out (by decide)) (SV.out.fr F7.out (by decide)) HN.out).mono ?_; rw [R2.out]; rintro e w8 ⟨A8, c8, rfl, -, hs, -, hx, hg, he, hf⟩; have G8 := Lib.hid (G7.out.trans hg); have E8 := Lib.hid he; have F8 : Hid (Fr w.heap.size [116, 123] [m] w4 w8) := F7.out.trans hf; clear hs hx hg he hf E7))
    | (go_at_call 42; have _t := F8; go_must (refine (envA_mul E8.out (by decide) UL.out VL.out (G8.out.lits UX.out) (G8.out.lits VX.out) (SU.out.fr F8.out (by decide)) (SV.out.fr F8.out (by decide)) HN.out).mono ?_; rw [R3.out]; rintro e w9 ⟨A9, c9, rfl, -, hs, -, hx, hg, he, hf⟩; have G9 := Lib.hid (G8.out.trans hg); have E9 := Lib.hid he; have F9 : Hid (Fr w.heap.size [116, 123] [m] w4 w9) := F8.out.trans hf; clear hs hx hg he hf E8))
    | (go_at_call 43; have _t := F9; go_must (refine (envA_choose E9.out (by decide) UL.out VL.out (G9.out.lits UX.out) (G9.out.lits VX.out) (SU.out.fr F9.out (by decide)) (SV.out.fr F9.out (by decide)) HN.out (G9.out.lit (show isLit g24 2 from ⟨by decide, by decide⟩))).mono ?_; rw [R4.out]; rintro e w10 ⟨A10, c10, rfl, -, hs, -, hx, hg, he, hf⟩; have G10 := Lib.hid (G9.out.trans hg); have E10 := Lib.hid he; have F10 : Hid (Fr w.heap.size [116, 123] [m] w4 w10) := F9.out.trans hf; clear hs hx hg he hf E9))
    | (go_at_call 44; have _t := F10; go_must (refine (envA_equal (E10.out.below (below_alloc _ _)) (by decide) UL.out VL.out (G10.out.lits UX.out) (G10.out.lits VX.out) (SU.out.fr (F10.out.trans (Fr.of_below (below_alloc _ _))) (by decide)) (SV.out.fr (F10.out.trans (Fr.of_below (below_alloc _ _))) (by decide))).mono ?_; rw [R5.out]; rintro e w11 ⟨rfl, hx, hg, he, hf⟩; rw [Z5.out]; have G11 := Lib.hid (G10.out.trans hg); have E11 := Lib.hid he; have F11 : Hid (Fr w.heap.size [116, 123] [m] w4 w11) := (F10.out.trans (Fr.of_below (below_alloc _ _))).trans hf; have S11 : Hid (SlI w11 w.heap.size (some ⟨w10.heap.size, 0, none⟩) 6 (List.replicate 6 ((0 : Nat) : Int))) := (six_new0 w10 w.heap.size).fr hf (by decide); clear hx hg he hf E10))
    | (go_at_call 45; have _t := F11; go_must (refine (envA_less E11.out (by decide) UL.out VL.out (G11.out.lits UX.out) (G11.out.lits VX.out) (SU.out.fr F11.out (by decide)) (SV.out.fr F11.out (by decide))).mono ?_; rw [R6.out]; rintro e w12 ⟨rfl, hx, hg, he, hf⟩; rw [Z6.out]; have G12 := Lib.hid (G11.out.trans hg); have E12 := Lib.hid he; have F12 : Hid (Fr w.heap.size [116, 123] [m] w4 w12) := F11.out.trans hf; have S12 : Hid (SlI w12 w.heap.size (some ⟨w10.heap.size, 0, none⟩) 6 (List.replicate 6 ((0 : Nat) : Int))) := S11.out.fr hf (by decide); clear hx hg he hf E11))
    | (go_at_call 46; have _t := F12; go_must (refine (envA_neg E12.out (by decide) UL.out HN1.out (G12.out.lits UX.out) (SU.out.fr F12.out (by decide))).mono ?_; rw [R7.out]; rintro e w13 ⟨A13, c13, rfl, -, hs, -, hx, hg, he, hf⟩; have G13 := Lib.hid (G12.out.trans hg); have E13 := Lib.hid he; have F13 : Hid (Fr w.heap.size [116, 123] [m] w4 w13) := F12.out.trans hf; have S13 := Lib.hid (S12.out.fr hf (by decide)); clear hs hx hg he hf E12)))
  go_loop [17, 101] (fun _ i => ∃ k : Nat, k ≤ 6 ∧ i = .int .i64 k) (fun _ i => 6 - (intOf i).toNat)
  case atStart => exact ⟨0, by omega, rfl⟩
  case round =>
    obtain ⟨k, hk, rfl⟩ := hrel
    by_cases hlt : k < 6
    · obtain ⟨b, o, x, hA, hx, hcell⟩ := S13.out.at_ (k := k) (by simpa using hlt)
      cases hA
      have hx2 : x = ((0 : Nat) : Int) := by
        rw [List.getElem?_replicate, if_pos hlt] at hx
        exact (Option.some.inj hx).symm
      rw [Nat.zero_add] at hcell
      subst hx2
      clear hx
      go_wp2
      go_round
      case rel => exact ⟨k + 1, by omega, by go_num⟩
      case measure => simp [intOf]; omega
    · have hk6 : k = 6 := by omega
      subst hk6
      clear hlt hk
      go_wp2_with (first
        | (go_at_call 38; go_must (obtain ⟨Ab, cb, hbd⟩ := E13.out.bd; rw [GG7.out] at hbd; refine (len_any w.heap.size p m Ab cb g24 w13 hbd (by decide)).mono ?_; rintro e w14 ⟨rfl, hb⟩; have E14 := Lib.hid (E13.out.below hb); have F14 : Hid (Fr w.heap.size [116, 123] [m] w4 w14) := F13.out.trans (Fr.of_below hb); clear hbd hb))
        | (go_at_call 47; go_must (obtain ⟨Ab, cb, hbd⟩ := E14.out.bd; refine (err_any w.heap.size p m Ab cb _ _ hbd).mono ?_; rintro e w15 ⟨rfl, rfl⟩; clear hbd)))
      go_ret
      exact ⟨rfl, (HB2.out.trans (HB24.out.mono HB2.out.size)).trans (F14.out.below (HB2.out.trans (HB24.out.mono HB2.out.size)).size)⟩

set_option maxRecDepth 10000 in
set_option maxHeartbeats 4000000 in
theorem words_b (xs ys : List Int) (A1 A2 : Option Addr) (c1 c2 : Nat) (w : World) (hx12 : xs.length ≤ 12) (hy12 : ys.length ≤ 12) (hc : 8 < xs.length) (H1 : Hid (SlI w w.heap.size A1 c1 xs)) (H2 : Hid (SlI w w.heap.size A2 c2 ys)) :
    Calls Try.prog 5 #[.slice A1 xs.length c1, .slice A2 ys.length c2] w fun e w' => e = .returned (.bool true) ∧ Below w.heap.size w w' := by
  have hd1 : decide ((12 : Int) < xs.length) = false := decide_eq_false (by omega)
  have hd2 : decide ((12 : Int) < ys.length) = false := decide_eq_false (by omega)
  have hd3 : decide ((1 : Int) ≤ xs.length) = true := decide_eq_true (by omega)
  have hd3n : decide (1 ≤ xs.length) = true := decide_eq_true (by omega)
  have hd4 : decide ((xs.length : Int) ≤ 8) = false := decide_eq_false (by omega)
  have hd4n : decide (xs.length ≤ 8) = false := decide_eq_false (by omega)
  obtain ⟨u, hu⟩ : ∃ u, litsF xs = u := ⟨_, rfl⟩
  obtain ⟨v, hv⟩ : ∃ v, litsF ys = v := ⟨_, rfl⟩
  have hul : u.length = xs.length := by rw [← hu, litsF_length]
  have hvl : v.length = ys.length := by rw [← hv, litsF_length]
  have hux : areLit g24 u := by rw [← hu]; exact litsF_lit _ rfl
  have hvx : areLit g24 v := by rw [← hv]; exact litsF_lit _ rfl
  have hok : ¬ okW u v := fun h => by have h1 := h.1; have h2 := h.2.1; have h3 := h.2.2; omega
  have hN : okN u v = 0 := if_neg hok
  obtain ⟨d, hd, hdg⟩ : ∃ d, divideF g24 u v = d ∧ d.g = g24 := ⟨⟨g24, [], []⟩, if_neg hok, rfl⟩
  obtain ⟨r1, h1, hg1⟩ : ∃ r, addF d.g u v = r ∧ r.g = g24 := ⟨⟨d.g, []⟩, if_neg hok, hdg⟩
  obtain ⟨r2, h2, hg2⟩ : ∃ r, subF r1.g u v = r ∧ r.g = g24 := ⟨⟨r1.g, []⟩, if_neg hok, hg1⟩
  obtain ⟨r3, h3, hg3⟩ : ∃ r, mulF r2.g u v = r ∧ r.g = g24 := ⟨⟨r2.g, []⟩, if_neg hok, hg2⟩
  obtain ⟨r4, h4, hg4⟩ : ∃ r, chooseF2 r3.g 2 u v = r ∧ r.g = g24 := ⟨⟨r3.g, []⟩, if_neg hok, hg3⟩
  obtain ⟨r5, h5, hg5, hz5⟩ : ∃ r, equalF r4.g u v = r ∧ r.g = g24 ∧ r.x = 0 := ⟨⟨r4.g, 0⟩, if_neg hok, hg4, rfl⟩
  obtain ⟨r6, h6, hg6, hz6⟩ : ∃ r, lessF r5.g u v = r ∧ r.g = g24 ∧ r.x = 0 := ⟨⟨r5.g, 0⟩, if_neg hok, hg5, rfl⟩
  have Z5 := Lib.hid hz5
  have Z6 := Lib.hid hz6
  have hok1 : ¬ okW1 u := fun h => by have h1 := h.1; have h2 := h.2; omega
  obtain ⟨r7, h7, hg7⟩ : ∃ r, negF r6.g u = r ∧ r.g = g24 := ⟨⟨r6.g, []⟩, if_neg hok1, hg6⟩
  have GG7 := Lib.hid hg7
  clear hg7
  clear hdg hg1 hg2 hg3 hg4 hg5 hg6 hz5 hz6
  have hN1 : okN1 u = 0 := if_neg hok1
  have UL := Lib.hid hul
  have VL := Lib.hid hvl
  have UX := Lib.hid hux
  have VX := Lib.hid hvx
  have U := Lib.hid hu
  have V := Lib.hid hv
  have HN := Lib.hid hN
  have HN1 := Lib.hid hN1
  have HD := Lib.hid hd
  have R1 := Lib.hid h1
  have R2 := Lib.hid h2
  have R3 := Lib.hid h3
  have R4 := Lib.hid h4
  have R5 := Lib.hid h5
  have R6 := Lib.hid h6
  have R7 := Lib.hid h7
  clear hc hok hok1 hul hvl hux hvx hu hv hN hN1 hd h1 h2 h3 h4 h5 h6 h7
  go_enter Try.func5, Try.ntmps5
  go_wp2_with (first
    | (go_at_call 22; refine (awake_any _).mono ?_; rintro e w1 ⟨rfl, hb1⟩; have HB1 := Lib.hid hb1; clear hb1)
    | (go_at_call 36; go_must (refine (new_any 24 w1 (by decide)).mono ?_; rintro e w2 ⟨p, m, rfl, hbd, hb2⟩; have HB2 : Hid (Below w.heap.size w w2) := HB1.out.trans (hb2.mono HB1.out.size); have E2 : Hid (Env w.heap.size p m g24 0 w2 g24) := (⟨HB2.out.size, ⟨none, 0, hbd.mono HB1.out.size⟩, g24_wf, Grew.refl _ _⟩ : Env w.heap.size p m g24 0 w2 g24); clear hbd hb2))
    | (go_at_call_of 37 (Value.slice A1 xs.length c1); go_must (refine (literals_any xs A1 c1 w.heap.size w2 hx12 (H1.out.below HB2.out)).mono ?_; rintro e w3 ⟨v3, rfl, ho, hb⟩; rw [U.out] at ho; obtain ⟨A3, c3, rfl, hs⟩ := ho.sl w.heap.size; rw [UL.out]; have HB3 := Lib.hid hb; have S3 := Lib.hid hs; clear ho hs hb))
    | (go_at_call_of 37 (Value.slice A2 ys.length c2); go_must (refine (literals_any ys A2 c2 w.heap.size w3 hy12 (H2.out.below (HB2.out.trans (HB3.out.mono HB2.out.size)))).mono ?_; rintro e w4 ⟨v4, rfl, ho, hb⟩; rw [V.out] at ho; obtain ⟨A4, c4, rfl, hs⟩ := ho.sl w.heap.size; rw [VL.out]; have HB24 : Hid (Below w2.heap.size w2 w4) := HB3.out.trans (hb.mono HB3.out.size); have HB4 : Hid (Below w.heap.size w w4) := HB2.out.trans (HB24.out.mono HB2.out.size); have SU := Lib.hid (S3.out.below hb); have SV := Lib.hid hs; have E4 := Lib.hid (E2.out.below HB24.out); clear ho hs hb))
    | (go_at_call 38; have _t := HB4; go_must (obtain ⟨Ab, cb, hbd⟩ := E4.out.bd; refine (len_any w.heap.size p m Ab cb g24 w4 hbd (by decide)).mono ?_; rintro e w5 ⟨rfl, hb⟩; have HB5 : Hid (Below w.heap.size w w5) := HB4.out.trans (hb.mono HB4.out.size); have HBS5 := Lib.hid hb; have E5 := Lib.hid (E4.out.below hb); have F5 : Hid (Fr w.heap.size [116, 123] [m] w4 w5) := Fr.of_below hb; clear hbd hb HB4 E4))
    | (go_at_call 39; go_must (refine (envA_divide E5.out (by decide) UL.out VL.out UX.out VX.out (SU.out.fr F5.out (by decide)) (SV.out.fr F5.out (by decide)) HN.out).mono ?_; rw [HD.out]; rintro e w6 ⟨Aq, cq, Ar, cr, rfl, hq, hr, -, -, hqx, hrx, hg, he, hf⟩; have G6 := Lib.hid hg; have E6 := Lib.hid he; have F6 : Hid (Fr w.heap.size [116, 123] [m] w4 w6) := F5.out.trans hf; clear hq hr hqx hrx hg he hf E5))
    | (go_at_call 40; have _t := F6; go_must (refine (envA_add E6.out (by decide) UL.out VL.out (G6.out.lits UX.out) (G6.out.lits VX.out) (SU.out.fr F6.out (by decide)) (SV.out.fr F6.out (by decide)) HN.out).mono ?_; rw [R1.out]; rintro e w7 ⟨A7, c7, rfl, -, hs, -, hx, hg, he, hf⟩; have G7 := Lib.hid (G6.out.trans hg); have E7 := Lib.hid he; have F7 : Hid (Fr w.heap.size [116, 123] [m] w4 w7) := F6.out.trans hf; clear hs hx hg he hf E6))
    | (go_at_call 41; have _t := F7; go_must (refine (envA_sub E7.out (by decide) UL.out VL.out (G7.out.lits UX.out) (G7.out.lits VX.out) (SU.out.fr F7.out (by decide)) (SV.out.fr F7.out (by decide)) HN.out).mono ?_; rw [R2.out]; rintro e w8 ⟨A8, c8, rfl, -, hs, -, hx, hg, he, hf⟩; have G8 := Lib.hid (G7.out.trans hg); have E8 := Lib.hid he; have F8 : Hid (Fr w.heap.size [116, 123] [m] w4 w8) := F7.out.trans hf; clear hs hx hg he hf E7))
    | (go_at_call 42; have _t := F8; go_must (refine (envA_mul E8.out (by decide) UL.out VL.out (G8.out.lits UX.out) (G8.out.lits VX.out) (SU.out.fr F8.out (by decide)) (SV.out.fr F8.out (by decide)) HN.out).mono ?_; rw [R3.out]; rintro e w9 ⟨A9, c9, rfl, -, hs, -, hx, hg, he, hf⟩; have G9 := Lib.hid (G8.out.trans hg); have E9 := Lib.hid he; have F9 : Hid (Fr w.heap.size [116, 123] [m] w4 w9) := F8.out.trans hf; clear hs hx hg he hf E8))
    | (go_at_call 43; have _t := F9; go_must (refine (envA_choose E9.out (by decide) UL.out VL.out (G9.out.lits UX.out) (G9.out.lits VX.out) (SU.out.fr F9.out (by decide)) (SV.out.fr F9.out (by decide)) HN.out (G9.out.lit (show isLit g24 2 from ⟨by decide, by decide⟩))).mono ?_; rw [R4.out]; rintro e w10 ⟨A10, c10, rfl, -, hs, -, hx, hg, he, hf⟩; have G10 := Lib.hid (G9.out.trans hg); have E10 := Lib.hid he; have F10 : Hid (Fr w.heap.size [116, 123] [m] w4 w10) := F9.out.trans hf; clear hs hx hg he hf E9))
    | (go_at_call 44; have _t := F10; go_must (refine (envA_equal (E10.out.below (below_alloc _ _)) (by decide) UL.out VL.out (G10.out.lits UX.out) (G10.out.lits VX.out) (SU.out.fr (F10.out.trans (Fr.of_below (below_alloc _ _))) (by decide)) (SV.out.fr (F10.out.trans (Fr.of_below (below_alloc _ _))) (by decide))).mono ?_; rw [R5.out]; rintro e w11 ⟨rfl, hx, hg, he, hf⟩; rw [Z5.out]; have G11 := Lib.hid (G10.out.trans hg); have E11 := Lib.hid he; have F11 : Hid (Fr w.heap.size [116, 123] [m] w4 w11) := (F10.out.trans (Fr.of_below (below_alloc _ _))).trans hf; have S11 : Hid (SlI w11 w.heap.size (some ⟨w10.heap.size, 0, none⟩) 6 (List.replicate 6 ((0 : Nat) : Int))) := (six_new0 w10 w.heap.size).fr hf (by decide); clear hx hg he hf E10))
    | (go_at_call 45; have _t := F11; go_must (refine (envA_less E11.out (by decide) UL.out VL.out (G11.out.lits UX.out) (G11.out.lits VX.out) (SU.out.fr F11.out (by decide)) (SV.out.fr F11.out (by decide))).mono ?_; rw [R6.out]; rintro e w12 ⟨rfl, hx, hg, he, hf⟩; rw [Z6.out]; have G12 := Lib.hid (G11.out.trans hg); have E12 := Lib.hid he; have F12 : Hid (Fr w.heap.size [116, 123] [m] w4 w12) := F11.out.trans hf; have S12 : Hid (SlI w12 w.heap.size (some ⟨w10.heap.size, 0, none⟩) 6 (List.replicate 6 ((0 : Nat) : Int))) := S11.out.fr hf (by decide); clear hx hg he hf E11))
    | (go_at_call 46; have _t := F12; go_must (refine (envA_neg E12.out (by decide) UL.out HN1.out (G12.out.lits UX.out) (SU.out.fr F12.out (by decide))).mono ?_; rw [R7.out]; rintro e w13 ⟨A13, c13, rfl, -, hs, -, hx, hg, he, hf⟩; have G13 := Lib.hid (G12.out.trans hg); have E13 := Lib.hid he; have F13 : Hid (Fr w.heap.size [116, 123] [m] w4 w13) := F12.out.trans hf; have S13 := Lib.hid (S12.out.fr hf (by decide)); clear hs hx hg he hf E12)))
  go_loop [17, 101] (fun _ i => ∃ k : Nat, k ≤ 6 ∧ i = .int .i64 k) (fun _ i => 6 - (intOf i).toNat)
  case atStart => exact ⟨0, by omega, rfl⟩
  case round =>
    obtain ⟨k, hk, rfl⟩ := hrel
    by_cases hlt : k < 6
    · obtain ⟨b, o, x, hA, hx, hcell⟩ := S13.out.at_ (k := k) (by simpa using hlt)
      cases hA
      have hx2 : x = ((0 : Nat) : Int) := by
        rw [List.getElem?_replicate, if_pos hlt] at hx
        exact (Option.some.inj hx).symm
      rw [Nat.zero_add] at hcell
      subst hx2
      clear hx
      go_wp2
      go_round
      case rel => exact ⟨k + 1, by omega, by go_num⟩
      case measure => simp [intOf]; omega
    · have hk6 : k = 6 := by omega
      subst hk6
      clear hlt hk
      go_wp2_with (first
        | (go_at_call 38; go_must (obtain ⟨Ab, cb, hbd⟩ := E13.out.bd; rw [GG7.out] at hbd; refine (len_any w.heap.size p m Ab cb g24 w13 hbd (by decide)).mono ?_; rintro e w14 ⟨rfl, hb⟩; have E14 := Lib.hid (E13.out.below hb); have F14 : Hid (Fr w.heap.size [116, 123] [m] w4 w14) := F13.out.trans (Fr.of_below hb); clear hbd hb))
        | (go_at_call 47; go_must (obtain ⟨Ab, cb, hbd⟩ := E14.out.bd; refine (err_any w.heap.size p m Ab cb _ _ hbd).mono ?_; rintro e w15 ⟨rfl, rfl⟩; clear hbd)))
      go_ret
      exact ⟨rfl, (HB2.out.trans (HB24.out.mono HB2.out.size)).trans (F14.out.below (HB2.out.trans (HB24.out.mono HB2.out.size)).size)⟩

set_option maxRecDepth 10000 in
set_option maxHeartbeats 4000000 in
theorem words_c (xs ys : List Int) (A1 A2 : Option Addr) (c1 c2 : Nat) (w : World) (hx12 : xs.length ≤ 12) (hy12 : ys.length ≤ 12) (hc : 1 ≤ xs.length ∧ xs.length ≤ 8 ∧ ys.length ≠ xs.length) (H1 : Hid (SlI w w.heap.size A1 c1 xs)) (H2 : Hid (SlI w w.heap.size A2 c2 ys)) :
    Calls Try.prog 5 #[.slice A1 xs.length c1, .slice A2 ys.length c2] w fun e w' => e = .returned (.bool true) ∧ Below w.heap.size w w' := by
  have hd1 : decide ((12 : Int) < xs.length) = false := decide_eq_false (by omega)
  have hd2 : decide ((12 : Int) < ys.length) = false := decide_eq_false (by omega)
  have hd3 : decide ((1 : Int) ≤ xs.length) = true := decide_eq_true (by omega)
  have hd3n : decide (1 ≤ xs.length) = true := decide_eq_true (by omega)
  have hd4 : decide ((xs.length : Int) ≤ 8) = true := decide_eq_true (by omega)
  have hd4n : decide (xs.length ≤ 8) = true := decide_eq_true (by omega)
  have hd5 : ((xs.length : Int) == (ys.length : Int)) = false := beq_eq_false_iff_ne.2 (by omega)
  have hd5n : (xs.length == ys.length) = false := beq_eq_false_iff_ne.2 (by omega)
  obtain ⟨u, hu⟩ : ∃ u, litsF xs = u := ⟨_, rfl⟩
  obtain ⟨v, hv⟩ : ∃ v, litsF ys = v := ⟨_, rfl⟩
  have hul : u.length = xs.length := by rw [← hu, litsF_length]
  have hvl : v.length = ys.length := by rw [← hv, litsF_length]
  have hux : areLit g24 u := by rw [← hu]; exact litsF_lit _ rfl
  have hvx : areLit g24 v := by rw [← hv]; exact litsF_lit _ rfl
  have hok : ¬ okW u v := fun h => by have h1 := h.1; have h2 := h.2.1; have h3 := h.2.2; omega
  have hN : okN u v = 0 := if_neg hok
  obtain ⟨d, hd, hdg⟩ : ∃ d, divideF g24 u v = d ∧ d.g = g24 := ⟨⟨g24, [], []⟩, if_neg hok, rfl⟩
  obtain ⟨r1, h1, hg1⟩ : ∃ r, addF d.g u v = r ∧ r.g = g24 := ⟨⟨d.g, []⟩, if_neg hok, hdg⟩
  obtain ⟨r2, h2, hg2⟩ : ∃ r, subF r1.g u v = r ∧ r.g = g24 := ⟨⟨r1.g, []⟩, if_neg hok, hg1⟩
  obtain ⟨r3, h3, hg3⟩ : ∃ r, mulF r2.g u v = r ∧ r.g = g24 := ⟨⟨r2.g, []⟩, if_neg hok, hg2⟩
  obtain ⟨r4, h4, hg4⟩ : ∃ r, chooseF2 r3.g 2 u v = r ∧ r.g = g24 := ⟨⟨r3.g, []⟩, if_neg hok, hg3⟩
  obtain ⟨r5, h5, hg5, hz5⟩ : ∃ r, equalF r4.g u v = r ∧ r.g = g24 ∧ r.x = 0 := ⟨⟨r4.g, 0⟩, if_neg hok, hg4, rfl⟩
  obtain ⟨r6, h6, hg6, hz6⟩ : ∃ r, lessF r5.g u v = r ∧ r.g = g24 ∧ r.x = 0 := ⟨⟨r5.g, 0⟩, if_neg hok, hg5, rfl⟩
  have Z5 := Lib.hid hz5
  have Z6 := Lib.hid hz6
  obtain ⟨r7, h7⟩ : ∃ r, negF r6.g u = r := ⟨_, rfl⟩
  clear hdg hg1 hg2 hg3 hg4 hg5 hg6 hz5 hz6
  have hN1 : okN1 u = xs.length := by unfold okN1; rw [if_pos ⟨by omega, by omega⟩, hul]
  have UL := Lib.hid hul
  have VL := Lib.hid hvl
  have UX := Lib.hid hux
  have VX := Lib.hid hvx
  have U := Lib.hid hu
  have V := Lib.hid hv
  have HN := Lib.hid hN
  have HN1 := Lib.hid hN1
  have HD := Lib.hid hd
  have R1 := Lib.hid h1
  have R2 := Lib.hid h2
  have R3 := Lib.hid h3
  have R4 := Lib.hid h4
  have R5 := Lib.hid h5
  have R6 := Lib.hid h6
  have R7 := Lib.hid h7
  clear hc hok hul hvl hux hvx hu hv hN hN1 hd h1 h2 h3 h4 h5 h6 h7
  go_enter Try.func5, Try.ntmps5
  go_wp2_with (first
    | (go_at_call 22; refine (awake_any _).mono ?_; rintro e w1 ⟨rfl, hb1⟩; have HB1 := Lib.hid hb1; clear hb1)
    | (go_at_call 36; go_must (refine (new_any 24 w1 (by decide)).mono ?_; rintro e w2 ⟨p, m, rfl, hbd, hb2⟩; have HB2 : Hid (Below w.heap.size w w2) := HB1.out.trans (hb2.mono HB1.out.size); have E2 : Hid (Env w.heap.size p m g24 0 w2 g24) := (⟨HB2.out.size, ⟨none, 0, hbd.mono HB1.out.size⟩, g24_wf, Grew.refl _ _⟩ : Env w.heap.size p m g24 0 w2 g24); clear hbd hb2))
    | (go_at_call_of 37 (Value.slice A1 xs.length c1); go_must (refine (literals_any xs A1 c1 w.heap.size w2 hx12 (H1.out.below HB2.out)).mono ?_; rintro e w3 ⟨v3, rfl, ho, hb⟩; rw [U.out] at ho; obtain ⟨A3, c3, rfl, hs⟩ := ho.sl w.heap.size; rw [UL.out]; have HB3 := Lib.hid hb; have S3 := Lib.hid hs; clear ho hs hb))
    | (go_at_call_of 37 (Value.slice A2 ys.length c2); go_must (refine (literals_any ys A2 c2 w.heap.size w3 hy12 (H2.out.below (HB2.out.trans (HB3.out.mono HB2.out.size)))).mono ?_; rintro e w4 ⟨v4, rfl, ho, hb⟩; rw [V.out] at ho; obtain ⟨A4, c4, rfl, hs⟩ := ho.sl w.heap.size; rw [VL.out]; have HB24 : Hid (Below w2.heap.size w2 w4) := HB3.out.trans (hb.mono HB3.out.size); have HB4 : Hid (Below w.heap.size w w4) := HB2.out.trans (HB24.out.mono HB2.out.size); have SU := Lib.hid (S3.out.below hb); have SV := Lib.hid hs; have E4 := Lib.hid (E2.out.below HB24.out); clear ho hs hb))
    | (go_at_call 38; have _t := HB4; go_must (obtain ⟨Ab, cb, hbd⟩ := E4.out.bd; refine (len_any w.heap.size p m Ab cb g24 w4 hbd (by decide)).mono ?_; rintro e w5 ⟨rfl, hb⟩; have HB5 : Hid (Below w.heap.size w w5) := HB4.out.trans (hb.mono HB4.out.size); have HBS5 := Lib.hid hb; have E5 := Lib.hid (E4.out.below hb); have F5 : Hid (Fr w.heap.size [116, 123] [m] w4 w5) := Fr.of_below hb; clear hbd hb HB4 E4))
    | (go_at_call 39; go_must (refine (envA_divide E5.out (by decide) UL.out VL.out UX.out VX.out (SU.out.fr F5.out (by decide)) (SV.out.fr F5.out (by decide)) HN.out).mono ?_; rw [HD.out]; rintro e w6 ⟨Aq, cq, Ar, cr, rfl, hq, hr, -, -, hqx, hrx, hg, he, hf⟩; have G6 := Lib.hid hg; have E6 := Lib.hid he; have F6 : Hid (Fr w.heap.size [116, 123] [m] w4 w6) := F5.out.trans hf; clear hq hr hqx hrx hg he hf E5))
    | (go_at_call 40; have _t := F6; go_must (refine (envA_add E6.out (by decide) UL.out VL.out (G6.out.lits UX.out) (G6.out.lits VX.out) (SU.out.fr F6.out (by decide)) (SV.out.fr F6.out (by decide)) HN.out).mono ?_; rw [R1.out]; rintro e w7 ⟨A7, c7, rfl, -, hs, -, hx, hg, he, hf⟩; have G7 := Lib.hid (G6.out.trans hg); have E7 := Lib.hid he; have F7 : Hid (Fr w.heap.size [116, 123] [m] w4 w7) := F6.out.trans hf; clear hs hx hg he hf E6))
    | (go_at_call 41; have _t := F7; go_must (refine (envA_sub E7.out (by decide) UL.out VL.out (G7.out.lits UX.out) (G7.out.lits VX.out) (SU.out.fr F7.out (by decide)) (SV.out.fr F7.out (by decide)) HN.out).mono ?_; rw [R2.out]; rintro e w8 ⟨A8, c8, rfl, -, hs, -, hx, hg, he, hf⟩; have G8 := Lib.hid (G7.out.trans hg); have E8 := Lib.hid he; have F8 : Hid (Fr w.heap.size [116, 123] [m] w4 w8) := F7.out.trans hf; clear hs hx hg he hf E7))
    | (go_at_call 42; have _t := F8; go_must (refine (envA_mul E8.out (by decide) UL.out VL.out (G8.out.lits UX.out) (G8.out.lits VX.out) (SU.out.fr F8.out (by decide)) (SV.out.fr F8.out (by decide)) HN.out).mono ?_; rw [R3.out]; rintro e w9 ⟨A9, c9, rfl, -, hs, -, hx, hg, he, hf⟩; have G9 := Lib.hid (G8.out.trans hg); have E9 := Lib.hid he; have F9 : Hid (Fr w.heap.size [116, 123] [m] w4 w9) := F8.out.trans hf; clear hs hx hg he hf E8))
    | (go_at_call 43; have _t := F9; go_must (refine (envA_choose E9.out (by decide) UL.out VL.out (G9.out.lits UX.out) (G9.out.lits VX.out) (SU.out.fr F9.out (by decide)) (SV.out.fr F9.out (by decide)) HN.out (G9.out.lit (show isLit g24 2 from ⟨by decide, by decide⟩))).mono ?_; rw [R4.out]; rintro e w10 ⟨A10, c10, rfl, -, hs, -, hx, hg, he, hf⟩; have G10 := Lib.hid (G9.out.trans hg); have E10 := Lib.hid he; have F10 : Hid (Fr w.heap.size [116, 123] [m] w4 w10) := F9.out.trans hf; clear hs hx hg he hf E9))
    | (go_at_call 44; have _t := F10; go_must (refine (envA_equal (E10.out.below (below_alloc _ _)) (by decide) UL.out VL.out (G10.out.lits UX.out) (G10.out.lits VX.out) (SU.out.fr (F10.out.trans (Fr.of_below (below_alloc _ _))) (by decide)) (SV.out.fr (F10.out.trans (Fr.of_below (below_alloc _ _))) (by decide))).mono ?_; rw [R5.out]; rintro e w11 ⟨rfl, hx, hg, he, hf⟩; rw [Z5.out]; have G11 := Lib.hid (G10.out.trans hg); have E11 := Lib.hid he; have F11 : Hid (Fr w.heap.size [116, 123] [m] w4 w11) := (F10.out.trans (Fr.of_below (below_alloc _ _))).trans hf; have S11 : Hid (SlI w11 w.heap.size (some ⟨w10.heap.size, 0, none⟩) 6 (List.replicate 6 ((0 : Nat) : Int))) := (six_new0 w10 w.heap.size).fr hf (by decide); clear hx hg he hf E10))
    | (go_at_call 45; have _t := F11; go_must (refine (envA_less E11.out (by decide) UL.out VL.out (G11.out.lits UX.out) (G11.out.lits VX.out) (SU.out.fr F11.out (by decide)) (SV.out.fr F11.out (by decide))).mono ?_; rw [R6.out]; rintro e w12 ⟨rfl, hx, hg, he, hf⟩; rw [Z6.out]; have G12 := Lib.hid (G11.out.trans hg); have E12 := Lib.hid he; have F12 : Hid (Fr w.heap.size [116, 123] [m] w4 w12) := F11.out.trans hf; have S12 : Hid (SlI w12 w.heap.size (some ⟨w10.heap.size, 0, none⟩) 6 (List.replicate 6 ((0 : Nat) : Int))) := S11.out.fr hf (by decide); clear hx hg he hf E11))
    | (go_at_call 46; have _t := F12; go_must (refine (envA_neg E12.out (by decide) UL.out HN1.out (G12.out.lits UX.out) (SU.out.fr F12.out (by decide))).mono ?_; rw [R7.out]; rintro e w13 ⟨A13, c13, rfl, -, hs, -, hx, hg, he, hf⟩; have G13 := Lib.hid (G12.out.trans hg); have E13 := Lib.hid he; have F13 : Hid (Fr w.heap.size [116, 123] [m] w4 w13) := F12.out.trans hf; have S13 := Lib.hid (S12.out.fr hf (by decide)); clear hs hx hg he hf E12)))
  go_loop [17, 101] (fun _ i => ∃ k : Nat, k ≤ 6 ∧ i = .int .i64 k) (fun _ i => 6 - (intOf i).toNat)
  case atStart => exact ⟨0, by omega, rfl⟩
  case round =>
    obtain ⟨k, hk, rfl⟩ := hrel
    by_cases hlt : k < 6
    · obtain ⟨b, o, x, hA, hx, hcell⟩ := S13.out.at_ (k := k) (by simpa using hlt)
      cases hA
      have hx2 : x = ((0 : Nat) : Int) := by
        rw [List.getElem?_replicate, if_pos hlt] at hx
        exact (Option.some.inj hx).symm
      rw [Nat.zero_add] at hcell
      subst hx2
      clear hx
      go_wp2
      go_round
      case rel => exact ⟨k + 1, by omega, by go_num⟩
      case measure => simp [intOf]; omega
    · have hk6 : k = 6 := by omega
      subst hk6
      clear hlt hk
      go_wp2_with (first
        | (go_at_call 47; go_must (obtain ⟨Ab, cb, hbd⟩ := E13.out.bd; refine (err_any w.heap.size p m Ab cb _ _ hbd).mono ?_; rintro e w15 ⟨rfl, rfl⟩; clear hbd)))
      go_ret
      exact ⟨rfl, (HB2.out.trans (HB24.out.mono HB2.out.size)).trans (F13.out.below (HB2.out.trans (HB24.out.mono HB2.out.size)).size)⟩

set_option maxRecDepth 10000 in
set_option maxHeartbeats 4000000 in
theorem words_d (xs ys : List Int) (A1 A2 : Option Addr) (c1 c2 : Nat) (w : World) (hx12 : xs.length ≤ 12) (hy12 : ys.length ≤ 12) (hc : 1 ≤ xs.length ∧ xs.length ≤ 8 ∧ ys.length = xs.length) (H1 : Hid (SlI w w.heap.size A1 c1 xs)) (H2 : Hid (SlI w w.heap.size A2 c2 ys)) :
    Calls Try.prog 5 #[.slice A1 xs.length c1, .slice A2 ys.length c2] w fun e w' => e = .returned (.bool true) ∧ Below w.heap.size w w' := by
  have hd1 : decide ((12 : Int) < xs.length) = false := decide_eq_false (by omega)
  have hd2 : decide ((12 : Int) < ys.length) = false := decide_eq_false (by omega)
  have hd3 : decide ((1 : Int) ≤ xs.length) = true := decide_eq_true (by omega)
  have hd3n : decide (1 ≤ xs.length) = true := decide_eq_true (by omega)
  have hd4 : decide ((xs.length : Int) ≤ 8) = true := decide_eq_true (by omega)
  have hd4n : decide (xs.length ≤ 8) = true := decide_eq_true (by omega)
  have hd5 : ((xs.length : Int) == (ys.length : Int)) = true := beq_iff_eq.2 (by omega)
  have hd5n : (xs.length == ys.length) = true := beq_iff_eq.2 (by omega)
  obtain ⟨u, hu⟩ : ∃ u, litsF xs = u := ⟨_, rfl⟩
  obtain ⟨v, hv⟩ : ∃ v, litsF ys = v := ⟨_, rfl⟩
  have hul : u.length = xs.length := by rw [← hu, litsF_length]
  have hvl : v.length = ys.length := by rw [← hv, litsF_length]
  have hux : areLit g24 u := by rw [← hu]; exact litsF_lit _ rfl
  have hvx : areLit g24 v := by rw [← hv]; exact litsF_lit _ rfl
  have hok : okW u v := ⟨by omega, by omega, by omega⟩
  have hN : okN u v = xs.length := by unfold okN; rw [if_pos hok, hul]
  obtain ⟨d, hd⟩ : ∃ d, divideF g24 u v = d := ⟨_, rfl⟩
  obtain ⟨r1, h1⟩ : ∃ r, addF d.g u v = r := ⟨_, rfl⟩
  obtain ⟨r2, h2⟩ : ∃ r, subF r1.g u v = r := ⟨_, rfl⟩
  obtain ⟨r3, h3⟩ : ∃ r, mulF r2.g u v = r := ⟨_, rfl⟩
  obtain ⟨r4, h4⟩ : ∃ r, chooseF2 r3.g 2 u v = r := ⟨_, rfl⟩
  obtain ⟨r5, h5⟩ : ∃ r, equalF r4.g u v = r := ⟨_, rfl⟩
  obtain ⟨r6, h6⟩ : ∃ r, lessF r5.g u v = r := ⟨_, rfl⟩
  obtain ⟨r7, h7⟩ : ∃ r, negF r6.g u = r := ⟨_, rfl⟩
  have hN1 : okN1 u = xs.length := by unfold okN1; rw [if_pos ⟨by omega, by omega⟩, hul]
  have UL := Lib.hid hul
  have VL := Lib.hid hvl
  have UX := Lib.hid hux
  have VX := Lib.hid hvx
  have U := Lib.hid hu
  have V := Lib.hid hv
  have HN := Lib.hid hN
  have HN1 := Lib.hid hN1
  have HD := Lib.hid hd
  have R1 := Lib.hid h1
  have R2 := Lib.hid h2
  have R3 := Lib.hid h3
  have R4 := Lib.hid h4
  have R5 := Lib.hid h5
  have R6 := Lib.hid h6
  have R7 := Lib.hid h7
  clear hc hok hul hvl hux hvx hu hv hN hN1 hd h1 h2 h3 h4 h5 h6 h7
  go_enter Try.func5, Try.ntmps5
  go_wp2_with (first
    | (go_at_call 22; refine (awake_any _).mono ?_; rintro e w1 ⟨rfl, hb1⟩; have HB1 := Lib.hid hb1; clear hb1)
    | (go_at_call 36; go_must (refine (new_any 24 w1 (by decide)).mono ?_; rintro e w2 ⟨p, m, rfl, hbd, hb2⟩; have HB2 : Hid (Below w.heap.size w w2) := HB1.out.trans (hb2.mono HB1.out.size); have E2 : Hid (Env w.heap.size p m g24 0 w2 g24) := (⟨HB2.out.size, ⟨none, 0, hbd.mono HB1.out.size⟩, g24_wf, Grew.refl _ _⟩ : Env w.heap.size p m g24 0 w2 g24); clear hbd hb2))
    | (go_at_call_of 37 (Value.slice A1 xs.length c1); go_must (refine (literals_any xs A1 c1 w.heap.size w2 hx12 (H1.out.below HB2.out)).mono ?_; rintro e w3 ⟨v3, rfl, ho, hb⟩; rw [U.out] at ho; obtain ⟨A3, c3, rfl, hs⟩ := ho.sl w.heap.size; rw [UL.out]; have HB3 := Lib.hid hb; have S3 := Lib.hid hs; clear ho hs hb))
    | (go_at_call_of 37 (Value.slice A2 ys.length c2); go_must (refine (literals_any ys A2 c2 w.heap.size w3 hy12 (H2.out.below (HB2.out.trans (HB3.out.mono HB2.out.size)))).mono ?_; rintro e w4 ⟨v4, rfl, ho, hb⟩; rw [V.out] at ho; obtain ⟨A4, c4, rfl, hs⟩ := ho.sl w.heap.size; rw [VL.out]; have HB24 : Hid (Below w2.heap.size w2 w4) := HB3.out.trans (hb.mono HB3.out.size); have HB4 : Hid (Below w.heap.size w w4) := HB2.out.trans (HB24.out.mono HB2.out.size); have SU := Lib.hid (S3.out.below hb); have SV := Lib.hid hs; have E4 := Lib.hid (E2.out.below HB24.out); clear ho hs hb))
    | (go_at_call 38; have _t := HB4; go_must (obtain ⟨Ab, cb, hbd⟩ := E4.out.bd; refine (len_any w.heap.size p m Ab cb g24 w4 hbd (by decide)).mono ?_; rintro e w5 ⟨rfl, hb⟩; have HB5 : Hid (Below w.heap.size w w5) := HB4.out.trans (hb.mono HB4.out.size); have HBS5 := Lib.hid hb; have E5 := Lib.hid (E4.out.below hb); have F5 : Hid (Fr w.heap.size [116, 123] [m] w4 w5) := Fr.of_below hb; clear hbd hb HB4 E4))
    | (go_at_call 39; go_must (refine (envA_divide E5.out (by decide) UL.out VL.out UX.out VX.out (SU.out.fr F5.out (by decide)) (SV.out.fr F5.out (by decide)) HN.out).mono ?_; rw [HD.out]; rintro e w6 ⟨Aq, cq, Ar, cr, rfl, hq, hr, -, -, hqx, hrx, hg, he, hf⟩; have G6 := Lib.hid hg; have E6 := Lib.hid he; have F6 : Hid (Fr w.heap.size [116, 123] [m] w4 w6) := F5.out.trans hf; clear hq hr hqx hrx hg he hf E5))
    | (go_at_call 40; have _t := F6; go_must (refine (envA_add E6.out (by decide) UL.out VL.out (G6.out.lits UX.out) (G6.out.lits VX.out) (SU.out.fr F6.out (by decide)) (SV.out.fr F6.out (by decide)) HN.out).mono ?_; rw [R1.out]; rintro e w7 ⟨A7, c7, rfl, -, hs, -, hx, hg, he, hf⟩; have G7 := Lib.hid (G6.out.trans hg); have E7 := Lib.hid he; have F7 : Hid (Fr w.heap.size [116, 123] [m] w4 w7) := F6.out.trans hf; clear hs hx hg he hf E6))
    | (go_at_call 41; have _t := F7; go_must (refine (envA_sub E7.out (by decide) UL.out VL.out (G7.out.lits UX.out) (G7.out.lits VX.out) (SU.out.fr F7.out (by decide)) (SV.out.fr F7.out (by decide)) HN.out).mono ?_; rw [R2.out]; rintro e w8 ⟨A8, c8, rfl, -, hs, -, hx, hg, he, hf⟩; have G8 := Lib.hid (G7.out.trans hg); have E8 := Lib.hid he; have F8 : Hid (Fr w.heap.size [116, 123] [m] w4 w8) := F7.out.trans hf; clear hs hx hg he hf E7))
    | (go_at_call 42; have _t := F8; go_must (refine (envA_mul E8.out (by decide) UL.out VL.out (G8.out.lits UX.out) (G8.out.lits VX.out) (SU.out.fr F8.out (by decide)) (SV.out.fr F8.out (by decide)) HN.out).mono ?_; rw [R3.out]; rintro e w9 ⟨A9, c9, rfl, -, hs, -, hx, hg, he, hf⟩; have G9 := Lib.hid (G8.out.trans hg); have E9 := Lib.hid he; have F9 : Hid (Fr w.heap.size [116, 123] [m] w4 w9) := F8.out.trans hf; clear hs hx hg he hf E8))
    | (go_at_call 43; have _t := F9; go_must (refine (envA_choose E9.out (by decide) UL.out VL.out (G9.out.lits UX.out) (G9.out.lits VX.out) (SU.out.fr F9.out (by decide)) (SV.out.fr F9.out (by decide)) HN.out (G9.out.lit (show isLit g24 2 from ⟨by decide, by decide⟩))).mono ?_; rw [R4.out]; rintro e w10 ⟨A10, c10, rfl, -, hs, -, hx, hg, he, hf⟩; have G10 := Lib.hid (G9.out.trans hg); have E10 := Lib.hid he; have F10 : Hid (Fr w.heap.size [116, 123] [m] w4 w10) := F9.out.trans hf; clear hs hx hg he hf E9))
    | (go_at_call 44; have _t := F10; go_must (refine (envA_equal (E10.out.below (below_alloc _ _)) (by decide) UL.out VL.out (G10.out.lits UX.out) (G10.out.lits VX.out) (SU.out.fr (F10.out.trans (Fr.of_below (below_alloc _ _))) (by decide)) (SV.out.fr (F10.out.trans (Fr.of_below (below_alloc _ _))) (by decide))).mono ?_; rw [R5.out]; rintro e w11 ⟨rfl, hx, hg, he, hf⟩; have G11 := Lib.hid (G10.out.trans hg); have E11 := Lib.hid he; have F11 : Hid (Fr w.heap.size [116, 123] [m] w4 w11) := (F10.out.trans (Fr.of_below (below_alloc _ _))).trans hf; have S11 : Hid (SlI w11 w.heap.size (some ⟨w10.heap.size, 0, none⟩) 6 (List.replicate 6 ((xs.length : Nat) : Int))) := (six_new w10 w.heap.size xs.length).fr hf (by decide); clear hx hg he hf E10))
    | (go_at_call 45; have _t := F11; go_must (refine (envA_less E11.out (by decide) UL.out VL.out (G11.out.lits UX.out) (G11.out.lits VX.out) (SU.out.fr F11.out (by decide)) (SV.out.fr F11.out (by decide))).mono ?_; rw [R6.out]; rintro e w12 ⟨rfl, hx, hg, he, hf⟩; have G12 := Lib.hid (G11.out.trans hg); have E12 := Lib.hid he; have F12 : Hid (Fr w.heap.size [116, 123] [m] w4 w12) := F11.out.trans hf; have S12 : Hid (SlI w12 w.heap.size (some ⟨w10.heap.size, 0, none⟩) 6 (List.replicate 6 ((xs.length : Nat) : Int))) := S11.out.fr hf (by decide); clear hx hg he hf E11))
    | (go_at_call 46; have _t := F12; go_must (refine (envA_neg E12.out (by decide) UL.out HN1.out (G12.out.lits UX.out) (SU.out.fr F12.out (by decide))).mono ?_; rw [R7.out]; rintro e w13 ⟨A13, c13, rfl, -, hs, -, hx, hg, he, hf⟩; have G13 := Lib.hid (G12.out.trans hg); have E13 := Lib.hid he; have F13 : Hid (Fr w.heap.size [116, 123] [m] w4 w13) := F12.out.trans hf; have S13 := Lib.hid (S12.out.fr hf (by decide)); clear hs hx hg he hf E12)))
  go_loop [17, 101] (fun _ i => ∃ k : Nat, k ≤ 6 ∧ i = .int .i64 k) (fun _ i => 6 - (intOf i).toNat)
  case atStart => exact ⟨0, by omega, rfl⟩
  case round =>
    obtain ⟨k, hk, rfl⟩ := hrel
    by_cases hlt : k < 6
    · obtain ⟨b, o, x, hA, hx, hcell⟩ := S13.out.at_ (k := k) (by simpa using hlt)
      cases hA
      have hx2 : x = ((xs.length : Nat) : Int) := by
        rw [List.getElem?_replicate, if_pos hlt] at hx
        exact (Option.some.inj hx).symm
      rw [Nat.zero_add] at hcell
      subst hx2
      clear hx
      go_wp2
      go_round
      case rel => exact ⟨k + 1, by omega, by go_num⟩
      case measure => simp [intOf]; omega
    · have hk6 : k = 6 := by omega
      subst hk6
      clear hlt hk
      go_wp2_with (first
        | (go_at_call 47; go_must (obtain ⟨Ab, cb, hbd⟩ := E13.out.bd; refine (err_any w.heap.size p m Ab cb _ _ hbd).mono ?_; rintro e w15 ⟨rfl, rfl⟩; clear hbd)))
      go_ret
      exact ⟨rfl, (HB2.out.trans (HB24.out.mono HB2.out.size)).trans (F13.out.below (HB2.out.trans (HB24.out.mono HB2.out.size)).size)⟩

theorem words_walk (xs ys : List Int) (A1 A2 : Option Addr) (c1 c2 : Nat) (w : World) (h1 : SlI w w.heap.size A1 c1 xs) (h2 : SlI w w.heap.size A2 c2 ys) :
    Calls Try.prog 5 #[.slice A1 xs.length c1, .slice A2 ys.length c2] w fun e w' => e = .returned (.bool true) ∧ Below w.heap.size w w' := by
  have hb1 := h1.big
  have hb2 := h2.big
  by_cases hl1 : 12 < xs.length
  · have hd1 : (12 : Int) < xs.length := by omega
    clear h1 h2
    go_enter Try.func5, Try.ntmps5
    go_wp2_with (go_at_call 22; refine (awake_any _).mono ?_; rintro e w1 ⟨rfl, hb1⟩; have HB1 := Lib.hid hb1; clear hb1)
    go_ret
    exact ⟨rfl, HB1.out⟩
  by_cases hl2 : 12 < ys.length
  · have hd1 : decide ((12 : Int) < xs.length) = false := decide_eq_false (by omega)
    have hd2 : (12 : Int) < ys.length := by omega
    clear h1 h2
    go_enter Try.func5, Try.ntmps5
    go_wp2_with (go_at_call 22; refine (awake_any _).mono ?_; rintro e w1 ⟨rfl, hb1⟩; have HB1 := Lib.hid hb1; clear hb1)
    go_ret
    exact ⟨rfl, HB1.out⟩
  by_cases ha : xs.length < 1
  · exact words_a xs ys A1 A2 c1 c2 w (by omega) (by omega) ha (Lib.hid h1) (Lib.hid h2)
  by_cases hb : 8 < xs.length
  · exact words_b xs ys A1 A2 c1 c2 w (by omega) (by omega) hb (Lib.hid h1) (Lib.hid h2)
  by_cases hc : ys.length = xs.length
  · exact words_d xs ys A1 A2 c1 c2 w (by omega) (by omega) ⟨by omega, by omega, hc⟩ (Lib.hid h1) (Lib.hid h2)
  · exact words_c xs ys A1 A2 c1 c2 w (by omega) (by omega) ⟨by omega, by omega, hc⟩ (Lib.hid h1) (Lib.hid h2)
end Go.Proofs.Ytgmcajojigedaaa
