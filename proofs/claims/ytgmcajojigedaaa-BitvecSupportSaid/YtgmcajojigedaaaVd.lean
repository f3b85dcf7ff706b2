/- The walk of the law BitvecSupport. -/
import Derived.Test.YtgmcajojigedaaaVc
set_option linter.unusedSimpArgs false
set_option linter.unusedVariables false
namespace Go.Proofs.Ytgmcajojigedaaa
open Go.RowKit

theorem own_sl_here {w : World} {B : Nat} {v : Value} {xs : List Int} (h : OwnI w B v xs) : ∃ A c, v = .slice A xs.length c ∧ SlI w w.heap.size A c xs := h.sl _
def lenV : Value → Nat
  | .slice _ n _ => n
  | _ => 0
set_option maxRecDepth 100000 in
set_option maxHeartbeats 4000000 in
theorem support_yes (q : Int) (l : List Tm) (inp other : List Int) (A Ai Ao : Option Addr) (c ci co : Nat) (w : World) (h1 : 2 ≤ q) (h2 : q ≤ 8) (hl : l.length ≤ 40) (hs : SlT w A c l)
    (hsi : SlI w w.heap.size Ai ci inp) (hso : SlI w w.heap.size Ao co other) (hob : other.length * 8 ≤ 140737488351232) :
    Calls Try.prog 19 #[.int .i64 q, .slice A l.length c, .slice Ai inp.length ci, .slice Ao other.length co] w fun e w' => e = .returned (.bool true) ∧ Below w.heap.size w w' := by
  obtain ⟨T, hT⟩ : ∃ T, buildF q l = T := ⟨_, rfl⟩
  have hwf : TWf T := by rw [← hT]; exact buildF_wf h1 h2 l
  have hw : T.width = q := by rw [← hT]; exact buildF_width q l
  have hlen : T.nodes.length ≤ 16384 := hwf.size
  have HT := Lib.hid hT
  have WF := Lib.hid hwf
  have HW := Lib.hid hw
  have HS := Lib.hid hs
  have HSI := Lib.hid hsi
  have HSO := Lib.hid hso
  have hibig := hsi.1
  have hibig2 := hsi.2.1
  have d1 : decide ((l.length : Int) > 40) = false := decide_eq_false (by omega)
  have d1' : decide (40 < l.length) = false := decide_eq_false (by omega)
  clear hT hwf hs hw hsi hso
  go_enter Try.func19, Try.ntmps19
  go_wp2_with (first
    | (go_at_call 76; go_must (refine (awake22 _).mono ?_; rintro e w1 ⟨rfl, hb1⟩; have HB1 := Lib.hid hb1; clear hb1))
    | (go_at_call 23; go_must (refine (isWidth_yes _ _ h1 h2).mono ?_; rintro e w' ⟨rfl, rfl⟩))
    | (go_at_call 77; go_must (refine (build77_yes q l A c w1 h1 h2 (HS.out.below HB1.out)).mono ?_; rintro e w2 ⟨p, m, A2, c2, rfl, ht, hb2⟩; rw [HT.out] at ht; have HT2 := Lib.hid (ht.mono HB1.out.size); have HB2 : Hid (Below w.heap.size w w2) := HB1.out.trans (hb2.mono HB1.out.size); clear ht hb2))
    | (go_at_call 57; go_must (refine (tlen_any HT2.out).mono ?_; rintro e w' ⟨rfl, rfl⟩)))
  clear HS d1 d1' HT HB1
  go_loopw [36] (fun u wr => ∃ i : Nat, i ≤ T.nodes.length ∧ u = .int .i64 i ∧ Below w2.heap.size w2 wr) (fun u _ => T.nodes.length - (intOf u).toNat)
  case atStart => exact ⟨0, Nat.zero_le _, rfl, Below.refl _ _⟩
  case round =>
    obtain ⟨i, hi, rfl, hbr⟩ := hrel
    rename_i wr
    have HBR := Lib.hid hbr
    have HTR := Lib.hid (HT2.out.below hbr)
    have hbwr : Below w.heap.size w wr := HB2.out.trans (hbr.mono HB2.out.size)
    have HIR : Hid (SlI wr wr.heap.size Ai ci inp) := (HSI.out.below hbwr).more hbwr.size
    have HOR : Hid (SlI wr wr.heap.size Ao co other) := (HSO.out.below hbwr).more hbwr.size
    clear hbr hbwr
    by_cases hlt : i < T.nodes.length
    · obtain ⟨t, ht⟩ : ∃ t, T.nodes[i]? = some t := ⟨_, List.getElem?_eq_getElem hlt⟩
      have HTJ := Lib.hid ht
      have hltI : (i : Int) < (T.nodes.length : Int) := by omega
      have hna : nodeAt T (i : Int) = some t := by unfold nodeAt; rw [if_pos (by omega)]; exact ht
      rcases hv : vAt T inp i with _ | v
      · have hev : evalF T inp (i : Int) = (0, 2) := by unfold evalF; rw [hna]; dsimp only; rw [Int.toNat_natCast, hv]
        have HEV := Lib.hid hev
        clear ht hna hv hev
        go_wp2_with (go_at_call 58; go_must (refine (eval_any HTR.out WF.out HIR.out i).mono ?_; rw [HEV.out]; rintro e w3 ⟨rfl, hb⟩; have HB3 := Lib.hid hb; clear hb))
        go_roundw
        case rel => exact ⟨i + 1, by omega, by go_num, HBR.out.trans (HB3.out.mono HBR.out.size)⟩
        case measure => simp [intOf]; omega
      · have hev : evalF T inp (i : Int) = (v, 0) := by unfold evalF; rw [hna]; dsimp only; rw [Int.toNat_natCast, hv]
        have HEV := Lib.hid hev
        obtain ⟨needs, hN⟩ : ∃ needs, inputsF T (partsN T i) = needs := ⟨_, rfl⟩
        have HN := Lib.hid hN
        have hnl : ∀ n ∈ needs, 0 ≤ n ∧ n < 24 ∧ n < inp.length := fun n hn => needs_lt WF.out hv (by rw [hN]; exact hn)
        have HNL := Lib.hid hnl
        have HAG : Hid (vAt T (mixK inp other needs needs.length) i = some v) := val_same WF.out hv fun n hn => by
          rw [hN] at hn
          exact mixK_agree (fun n hn => (hnl n hn).1) needs.length (Nat.le_refl _) n (by rw [List.take_length]; exact hn)
        have HMF : Hid (evalF T (mixK inp other needs needs.length) (i : Int) = (v, 0)) := by show _ = _; unfold evalF; rw [hna]; dsimp only; rw [Int.toNat_natCast, HAG.out]
        have HML : Hid (∀ j, j ≤ needs.length → (mixK inp other needs j).length ≤ 17592186043904) := mixK_len (M := 17592186043904) (fun n hn => (hnl n hn).2.1) (by omega) (by omega)
        have hok := vAt_ok WF.out (i + 1) i (Nat.lt_succ_self i) ht hv
        have HOK := Lib.hid hok
        clear ht hna hv hev hN hnl hok
        go_wp2_with (first
          | (go_at_call 58; go_must (refine (eval_any HTR.out WF.out HIR.out i).mono ?_; rw [HEV.out]; rintro e w3 ⟨rfl, hb⟩; have HB3 := Lib.hid hb; clear hb))
          | (go_at_call 61; go_must (refine (inputs_yes (HTR.out.below HB3.out) WF.out HTJ.out).mono ?_; rintro e w4 ⟨v4, rfl, ho4, hb⟩; rw [HN.out] at ho4; obtain ⟨A4, c4, rfl, hs4⟩ := ho4.sl w4.heap.size; have HS4 := Lib.hid hs4; have HB4 : Hid (Below wr.heap.size wr w4) := HB3.out.trans (hb.mono HB3.out.size); clear hb ho4 hs4))
          | (go_at_call 89; go_must (refine (clone_own (HOR.out.below HB4.out) (by omega)).mono ?_; rintro e w5 ⟨v5, rfl, ho5, hb⟩; have HO5 := Lib.hid ho5; have HB5 := Lib.hid hb; clear ho5 hb)))
        have hnlen : needs.length ≤ 9223372036854775807 := Nat.le_trans HS4.out.1 HS4.out.2.1
        go_loopw [14, 55] (fun vm u wr2 => ∃ j : Nat, j ≤ needs.length ∧ u = .int .i64 j ∧ OwnI wr2 w4.heap.size vm (mixK inp other needs j) ∧ Below w4.heap.size w4 wr2) (fun _ u _ => needs.length - (intOf u).toNat)
        case atStart => exact ⟨0, Nat.zero_le _, rfl, HO5.out, HB5.out⟩
        case round =>
          obtain ⟨j, hj, rfl, hom, hb2⟩ := hrel
          have HOM := Lib.hid hom
          have HBM := Lib.hid hb2
          by_cases hjl : j < needs.length
          · obtain ⟨n, hn⟩ : ∃ n, needs[j]? = some n := ⟨_, List.getElem?_eq_getElem hjl⟩
            obtain ⟨n0, n24, nin⟩ := HNL.out n (List.mem_of_getElem? hn)
            obtain ⟨n', rfl⟩ := Int.eq_ofNat_of_zero_le n0
            have HNJ := Lib.hid hn
            have hjI : (j : Int) < (needs.length : Int) := by omega
            have e1 : decide ((n' : Int) ≥ (inp.length : Int)) = false := decide_eq_false (by omega)
            have e1' : decide (inp.length ≤ n') = false := decide_eq_false (by omega)
            obtain ⟨bn, on, xn, hA4, hxn, hcn⟩ := (HS4.out.below hb2).at_ hjl
            rw [hn] at hxn
            cases hxn
            subst hA4
            have HMJ := Lib.hid (HML.out j hj)
            clear hom hb2 hn n0
            go_wp2
            go_loopw [14] (fun vm wr3 => ∃ zs, OwnI wr3 w4.heap.size vm zs ∧ padTo n' zs = padTo n' (mixK inp other needs j) ∧ zs.length ≤ 17592186043904 ∧ Below w4.heap.size w4 wr3) (fun vm _ => n' + 1 - lenV vm)
            case atStart => exact ⟨_, HOM.out, rfl, HMJ.out, HBM.out⟩
            case round =>
              obtain ⟨zs, hoz, hpz, hzl, hbz⟩ := hrel
              by_cases hle : zs.length ≤ n'
              · have hleI : (zs.length : Int) ≤ (n' : Int) := by omega
                obtain ⟨Az, cz, rfl, -⟩ := hoz.sl 0
                have HOZ := Lib.hid hoz
                have HPZ := Lib.hid hpz
                have HBZ := Lib.hid hbz
                clear hpz hbz
                go_wp2_with (at_builtin; go_must (refine app1 (Value.int .i64) oneInt 24 3 8 Try.underlying24 Try.info3 rfl rfl _ _ rfl _ _ _ _ hoz rfl rfl ?_ ?_ ?_ ?_))
                · omega
                · omega
                · have := HBZ.out.size; omega
                intro v9 w9 ho9 hg9
                have hb9 := HBZ.out.grown hg9 HBZ.out.size (fun q hq => (HOZ.out.lt q hq).1)
                obtain ⟨A9, c9, rfl, -⟩ := ho9.sl 0
                clear hg9 hoz
                go_wp2
                go_roundw
                case rel => exact ⟨zs ++ [6144], ho9, by rw [padTo_step hle]; exact HPZ.out, by simp; omega, hb9⟩
                case measure => simp [lenV]; omega
              · have hleI : ¬ (zs.length : Int) ≤ (n' : Int) := by omega
                obtain ⟨g, cz, rfl, hgB⟩ := own_some hoz (by omega)
                rw [padTo_done (by omega)] at hpz
                have HPZ := Lib.hid hpz
                have HBZ := Lib.hid hbz
                have HOZ := Lib.hid hoz
                have hzI : (n' : Int) < (zs.length : Int) := by omega
                have hfz := hoz.frozen rfl n'
                obtain ⟨xz, _, hcz⟩ := hoz.cell rfl n' (by omega)
                have hb3 := HB4.out.trans (hbz.mono HB4.out.size)
                obtain ⟨bi, oi, xi, hAi, hxi, hci⟩ := (HIR.out.below hb3).at_ (k := n') (by omega)
                subst hAi
                have HXI : Hid (inp.getD n' 0 = xi) := by show _ = _; rw [List.getD_eq_getElem?_getD, hxi]; rfl
                clear hpz hbz hoz hb3 hxi
                go_wp2
                go_roundw
                case rel => exact ⟨j + 1, by omega, by go_num, by rw [mixK_succ HNJ.out]; unfold mix1; rw [Int.toNat_natCast, ← HPZ.out, HXI.out]; exact HOZ.out.set rfl n' xi, HBZ.out.setCell (p := ⟨g, n', none⟩) hgB _⟩
                case measure => simp [intOf]; omega
          · obtain rfl : j = needs.length := by omega
            have hob2 := HB4.out.trans (hb2.mono HB4.out.size)
            have HBE := Lib.hid hob2
            have HTE := Lib.hid (HTR.out.below hob2)
            obtain ⟨Am, cm, rfl, hsm⟩ := own_sl_here hom
            have HSM := Lib.hid hsm
            have hok := HOK.out
            have hjI : ¬ (needs.length : Int) < (needs.length : Int) := by omega
            clear hom hb2 hob2 hsm
            have h01 := sortF_01 t.op
            obtain ⟨so, hso⟩ : ∃ so, sortF t.op = so := ⟨_, rfl⟩
            rw [hso] at h01 hok
            have HSORT := Lib.hid hso
            clear hso HOK
            rcases h01 with rfl | rfl
            · have hwr := wrapW_of_in (hok.1 rfl)
              rw [HW.out] at hwr
              have HWR := Lib.hid hwr
              clear hwr hok
              go_wp2_with (first
                | (go_at_call 58; go_must (refine (eval_any HTE.out WF.out HSM.out i).mono ?_; rw [HMF.out]; rintro e w7 ⟨rfl, hb⟩; have HB7 := Lib.hid (HBE.out.trans (hb.mono HBE.out.size)); clear hb))
                | (go_at_call 60; go_must (refine (tsort_yes (HTR.out.below HB7.out) HTJ.out).mono ?_; rw [HSORT.out]; rintro e w8 ⟨rfl, hb⟩; have HB8 := Lib.hid (HB7.out.trans (hb.mono HB7.out.size)); clear hb))
                | (go_at_call 25; go_must (refine (wrap_v HWR.out _).mono ?_; rintro e w' ⟨rfl, rfl⟩)))
              go_roundw
              case rel => exact ⟨i + 1, by omega, by go_num, HBR.out.trans (HB8.out.mono HBR.out.size)⟩
              case measure => simp [intOf]; omega
            · rcases hok.2 rfl with rfl | rfl
              · clear hok
                go_wp2_with (first
                  | (go_at_call 58; go_must (refine (eval_any HTE.out WF.out HSM.out i).mono ?_; rw [HMF.out]; rintro e w7 ⟨rfl, hb⟩; have HB7 := Lib.hid (HBE.out.trans (hb.mono HBE.out.size)); clear hb))
                  | (go_at_call 60; go_must (refine (tsort_yes (HTR.out.below HB7.out) HTJ.out).mono ?_; rw [HSORT.out]; rintro e w8 ⟨rfl, hb⟩; have HB8 := Lib.hid (HB7.out.trans (hb.mono HB7.out.size)); clear hb)))
                go_roundw
                case rel => exact ⟨i + 1, by omega, by go_num, HBR.out.trans (HB8.out.mono HBR.out.size)⟩
                case measure => simp [intOf]; omega
              · clear hok
                go_wp2_with (first
                  | (go_at_call 58; go_must (refine (eval_any HTE.out WF.out HSM.out i).mono ?_; rw [HMF.out]; rintro e w7 ⟨rfl, hb⟩; have HB7 := Lib.hid (HBE.out.trans (hb.mono HBE.out.size)); clear hb))
                  | (go_at_call 60; go_must (refine (tsort_yes (HTR.out.below HB7.out) HTJ.out).mono ?_; rw [HSORT.out]; rintro e w8 ⟨rfl, hb⟩; have HB8 := Lib.hid (HB7.out.trans (hb.mono HB7.out.size)); clear hb)))
                go_roundw
                case rel => exact ⟨i + 1, by omega, by go_num, HBR.out.trans (HB8.out.mono HBR.out.size)⟩
                case measure => simp [intOf]; omega
    · obtain rfl : i = T.nodes.length := by omega
      go_wp2
      go_ret
      exact ⟨rfl, HB2.out.trans (HBR.out.mono HB2.out.size)⟩
set_option maxRecDepth 100000 in
theorem support_walk (q : Int) (l : List Tm) (inp other : List Int) (A Ai Ao : Option Addr) (c ci co : Nat) (w : World) (hs : SlT w A c l)
    (hsi : SlI w w.heap.size Ai ci inp) (hso : SlI w w.heap.size Ao co other) (hob : other.length * 8 ≤ 140737488351232) :
    Calls Try.prog 19 #[.int .i64 q, .slice A l.length c, .slice Ai inp.length ci, .slice Ao other.length co] w fun e w' => e = .returned (.bool true) ∧ Below w.heap.size w w' := by
  have hbig := hs.big
  by_cases hl : l.length ≤ 40
  · by_cases h : q < 2 ∨ 8 < q
    · have d1 : decide ((l.length : Int) > 40) = false := decide_eq_false (by omega)
      have d1' : decide (40 < l.length) = false := decide_eq_false (by omega)
      clear hs hl hsi hso hob
      go_enter Try.func19, Try.ntmps19
      go_wp2_with (first
        | (go_at_call 76; go_must (refine (awake22 _).mono ?_; rintro e w1 ⟨rfl, hb1⟩; have HB1 := Lib.hid hb1; clear hb1))
        | (go_at_call 23; go_must (refine (isWidth_no _ _ h).mono ?_; rintro e w' ⟨rfl, rfl⟩)))
      go_ret
      exact ⟨rfl, HB1.out⟩
    · exact support_yes q l inp other A Ai Ao c ci co w (by omega) (by omega) hl hs hsi hso hob
  · have d1 : decide ((l.length : Int) > 40) = true := decide_eq_true (by omega)
    have d1' : decide (40 < l.length) = true := decide_eq_true (by omega)
    clear hs hl hsi hso hob
    go_enter Try.func19, Try.ntmps19
    go_wp2_with (go_at_call 76; go_must (refine (awake22 _).mono ?_; rintro e w1 ⟨rfl, hb1⟩; have HB1 := Lib.hid hb1; clear hb1))
    go_ret
    exact ⟨rfl, HB1.out⟩
end Go.Proofs.Ytgmcajojigedaaa
