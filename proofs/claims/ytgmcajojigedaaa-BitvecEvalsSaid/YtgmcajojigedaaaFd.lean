/- Words of literals: the walk of Divide. -/
import Derived.Test.YtgmcajojigedaaaFc
import Derived.Deep.RegionWith
set_option linter.unusedSimpArgs false
set_option linter.unusedVariables false
namespace Go.Proofs.Ytgmcajojigedaaa
open Go.RowKit

def DivRet (B0 p m : Nat) (w : World) (s : DivS) (e : Ending) (w' : World) : Prop :=
  ∃ Aq cq Ar cr A' c', e = .returned (.tuple #[.slice Aq s.q.length cq, .slice Ar s.r.length cr]) ∧ SlI w' B0 Aq cq s.q ∧ SlI w' B0 Ar cr s.r ∧ Bd B0 w' p m A' c' s.g ∧ Fr B0 [116, 123] [m] w w'

theorem size_setCell (w : World) (p : Addr) (u : Value) : (w.setCell p u).heap.size = w.heap.size := by simp [World.setCell]
section
variable {B0 p m : Nat} {A A1 A2 : Option Addr} {c c1 c2 : Nat} {g : GS} {xs ys : List Int} {w : World}
set_option maxRecDepth 10000 in
set_option maxHeartbeats 4000000 in
theorem divide_any (hB : B0 ≤ w.heap.size) (hb : Bd B0 w p m A c g) (hw : GWf g) (hn : g.nodes + 2000 ≤ 65536) (hxl : areLit g xs) (hyl : areLit g ys) (h1 : SlI w B0 A1 c1 xs) (h2 : SlI w B0 A2 c2 ys) :
    Calls Try.prog 39 #[.pointer (some ⟨p, 0, none⟩), .slice A1 xs.length c1, .slice A2 ys.length c2] w (DivRet B0 p m w (divideF g xs ys)) := by
  have HB := Lib.hid hb
  have H1 := Lib.hid h1
  have H2 := Lib.hid h2
  by_cases h : okW xs ys
  · have hok := okW_yes h
    have e : Hid (divideF g xs ys = divZ (divK (divA g xs ys).g (divA g xs ys).ax ((divA g xs ys).ay ++ [0]) xs.length xs.length) xs ys) := if_pos h
    have HXL := Lib.hid hxl
    have HYL := Lib.hid hyl
    have hylen : ys.length = xs.length := h.2.2
    have hx8 : xs.length ≤ 8 := h.2.1
    have hx1 : 1 ≤ xs.length := h.1
    obtain ⟨nm, hnm⟩ : ∃ nm, xs.length = nm + 1 := ⟨xs.length - 1, by omega⟩
    have hsub : (xs.length : Int) - 1 = (nm : Int) := by omega
    have hwn : IntKind.i64.wrap (nm : Int) = (nm : Int) := by rw [IntKind.wrap_i64]; omega
    have hlt1 : (nm : Int) < (xs.length : Int) := by omega
    have F1 : Hid (Below w.heap.size w (w.alloc (.cells #[.slice A1 xs.length c1, .slice A2 ys.length c2] 24))) := below_alloc _ _
    obtain ⟨b1, o1, sx, rfl, hx, hcx⟩ := h1.at_ (k := nm) (by omega)
    obtain ⟨b2, o2, sy, rfl, hy, hcy⟩ := h2.at_ (k := nm) (by omega)
    have hcx1 := F1.out.cell (p := ⟨b1, o1 + nm, none⟩) (cell_lt hcx)
    rw [hcx] at hcx1
    have hcy1 := F1.out.cell (p := ⟨b2, o2 + nm, none⟩) (cell_lt hcy)
    rw [hcy] at hcy1
    have hsx : Hid (xs.getD (xs.length - 1) 0 = sx) := by show _ = _; rw [hnm]; exact getD_of hx
    have hsy : Hid (ys.getD (xs.length - 1) 0 = sy) := by show _ = _; rw [hnm]; exact getD_of hy
    have hlx : Hid (isLit g sx) := by have := hxl.getD (xs.length - 1); rwa [hsx.out] at this
    have hly : Hid (isLit g sy) := by have := hyl.getD (xs.length - 1); rwa [hsy.out] at this
    have hnmI : Hid (xs.length = nm + 1) := hnm
    have hE0 : Env B0 p m g 0 w g := ⟨hB, ⟨A, c, hb⟩, hw, Grew.refl _ _⟩
    have HE0 := Lib.hid (hE0.below F1.out)
    have HW := Lib.hid hw
    have hsw := slw_two H1.out H2.out
    rw [hylen] at hcx1 hcy1 F1 HE0 hsw ⊢
    have HSW := Lib.hid hsw
    have HYLEN := Lib.hid hylen
    clear hsw
    obtain ⟨n1, hn1⟩ : ∃ r, negF g xs = r := ⟨_, rfl⟩
    obtain ⟨d1, hd1⟩ : ∃ r, chooseF n1.g sx n1.out xs = r := ⟨_, rfl⟩
    obtain ⟨n2, hn2⟩ : ∃ r, negF d1.g ys = r := ⟨_, rfl⟩
    obtain ⟨d2, hd2⟩ : ∃ r, chooseF n2.g sy n2.out ys = r := ⟨_, rfl⟩
    have hDA : divA g xs ys = ⟨d2.g, d1.out, d2.out⟩ := by unfold divA; simp only [hsx.out, hsy.out, hn1, hd1, hn2, hd2]
    rw [hDA] at e
    have N1 := Lib.hid hn1
    have D1 := Lib.hid hd1
    have N2 := Lib.hid hn2
    have D2 := Lib.hid hd2
    clear hb h1 h2 h hxl hyl hw hx hy hcx hcy hnm hE0 hylen hn1 hd1 hn2 hd2 hDA
    go_enter Try.func39, Try.ntmps39
    go_wp2_with (go_at_call 102; go_must (refine (words_any [xs, ys] _ 2 B0 _ HSW.out (by simp) (by simp)).mono ?_; rintro e w' ⟨rfl, rfl⟩))
    obtain ⟨w1, hw1⟩ : ∃ w1 : World, w.alloc (.cells #[.slice (some ⟨b1, o1, none⟩) xs.length c1, .slice (some ⟨b2, o2, none⟩) xs.length c2] 24) = w1 := ⟨_, rfl⟩
    rw [hw1] at hcx1 hcy1 F1 HE0 ⊢
    clear hw1 HSW
    go_quiet (fail)
    go_wp2_with (first
      | (go_at_call_of 46 (Value.slice (some ⟨b1, o1, none⟩) xs.length c1); go_must (refine (env_neg (k := 0) (xs := xs) (HE0.out.below (below_drewN (Below.refl _ _) nq)) (by omega) rfl hx1 hx8 HXL.out ((H1.out.below F1.out).drewN nq)).mono ?_; rw [N1.out]; rintro e w3 ⟨A3, c3, rfl, -, hs3, hl3, hx3, hg3, he3, hf3⟩; have F3 : Hid (Fr B0 [116, 123] [m] w w3) := ((Fr.of_below F1.out).drewN nq).trans hf3; have S3 := Lib.hid hs3; have L3 := Lib.hid hl3; have X3 := Lib.hid hx3; have G3 := Lib.hid hg3; have E3 := Lib.hid he3; clear hs3 hl3 hx3 hg3 he3 hf3))
      | (go_at_call_of 103 (Value.slice A3 xs.length c3); refine (env_choose (xs := n1.out) (ys := xs) E3.out (by omega) L3.out rfl (by omega) (G3.out.lit hlx.out) X3.out (G3.out.lits HXL.out) S3.out (H1.out.fr F3.out (by decide))).mono ?_; rw [D1.out]; rintro e w4 ⟨A4, c4, rfl, -, hs4, hl4, hx4, hg4, he4, hf4⟩; have F4 : Hid (Fr B0 [116, 123] [m] w w4) := F3.out.trans hf4; have S4 := Lib.hid hs4; have L4 := Lib.hid hl4; have X4 := Lib.hid hx4; have G4 := Lib.hid (G3.out.trans hg4); have E4 := Lib.hid he4; clear hs4 hl4 hx4 hg4 he4 hf4 F3 S3 L3 X3 G3 E3)
      | (go_at_call_of 46 (Value.slice (some ⟨b2, o2, none⟩) xs.length c2); refine (env_neg (xs := ys) E4.out (by omega) HYLEN.out hx1 hx8 (G4.out.lits HYL.out) (H2.out.fr F4.out (by decide))).mono ?_; rw [N2.out]; rintro e w5 ⟨A5, c5, rfl, -, hs5, hl5, hx5, hg5, he5, hf5⟩; have F5 : Hid (Fr B0 [116, 123] [m] w w5) := F4.out.trans hf5; have S5 := Lib.hid hs5; have L5 := Lib.hid hl5; have X5 := Lib.hid hx5; have G5 := Lib.hid (G4.out.trans hg5); have E5 := Lib.hid he5; have S4' := Lib.hid (S4.out.fr hf5 (by decide)); have X4' := Lib.hid (hg5.lits X4.out); clear hs5 hl5 hx5 hg5 he5 hf5 F4 S4 X4 G4 E4)
      | (go_at_call_of 103 (Value.slice A5 xs.length c5); refine (env_choose (xs := n2.out) (ys := ys) E5.out (by omega) L5.out HYLEN.out (by omega) (G5.out.lit hly.out) X5.out (G5.out.lits HYL.out) S5.out (H2.out.fr F5.out (by decide))).mono ?_; rw [D2.out]; rintro e w6 ⟨A6, c6, rfl, -, hs6, hl6, hx6, hg6, he6, hf6⟩; have F6 : Hid (Fr B0 [116, 123] [m] w w6) := F5.out.trans hf6; have S6 := Lib.hid hs6; have L6 := Lib.hid hl6; have X6 := Lib.hid hx6; have G6 := Lib.hid (G5.out.trans hg6); have E6 := Lib.hid he6; have S4 := Lib.hid (S4'.out.fr hf6 (by decide)); have X4 := Lib.hid (hg6.lits X4'.out); clear hs6 hl6 hx6 hg6 he6 hf6 F5 S5 L5 X5 G5 E5 S4' X4')
      | (at_builtin; go_must (refine appAll oneInt 24 8 Try.underlying24 Try.info3 rfl rfl _ _ rfl (own_new (Value.int .i64) 3 w6 _ (Nat.le_refl _) [] (by simp)) (S6.out.alloc _) L6.out rfl rfl ?_ ?_ ?_ ?_)))
    · simp; omega
    · simp; omega
    · simp
    intro v7 w7 ho7 hg7
    have hb7 : Below w6.heap.size w6 w7 := (below_alloc w6 _).grown hg7 (by simp) (fun j hj => by simp [Value.ownBlock] at hj; omega)
    have HB7 := Lib.hid hb7
    have hlen7 : ([] ++ d2.out : List Int).length ≤ 8 := by simp; have := L6.out; omega
    clear hg7 hb7
    go_wp2_with (at_builtin; go_must (refine app1 (Value.int .i64) oneInt 24 3 8 Try.underlying24 Try.info3 rfl rfl _ _ rfl _ _ _ _ ho7 rfl rfl ?_ ?_ ?_ ?_))
    · have := L6.out; omega
    · have := L6.out; omega
    · exact HB7.out.size
    intro v8 w8 ho8 hg8
    have hb8 : Below w6.heap.size w6 w8 := HB7.out.grown hg8 HB7.out.size (fun j hj => (ho7.lt j hj).1)
    obtain ⟨wd, hwd⟩ : ∃ wd, d2.out ++ [0] = wd := ⟨_, rfl⟩
    have hwl : wd.length = xs.length + 1 := by rw [← hwd]; simp; exact L6.out
    have hwx : areLit d2.g wd := by rw [← hwd]; exact X6.out.push (lit_zero _)
    rw [hwd] at ho8
    rw [hwd] at e
    obtain ⟨A8, c8, hv8, hs8⟩ := ho8.sl B0
    rw [hwl] at hv8
    have F8 : Hid (Fr B0 [116, 123] [m] w w8) := F6.out.trans (Fr.of_below hb8)
    have E8 := Lib.hid (E6.out.below hb8)
    have S8 := Lib.hid hs8
    have SA := Lib.hid (S4.out.below hb8)
    have WL := Lib.hid hwl
    have WX := Lib.hid hwx
    subst hv8
    clear ho8 hg8 hb8 hwl hwx hwd hs8 ho7 HB7 hlen7 S6 S4 F6 E6
    go_wp2_with (first
      | (go_at_call_of 94 (Value.int IntKind.i64 (xs.length : Int)); go_must (refine (constant_any xs.length 0 _ (by omega)).mono ?_; rintro e w9 ⟨v9, rfl, ho9, hb9⟩; obtain ⟨Q, cq, rfl, hQ⟩ := ho9.form (by rw [bitsI_length]; omega); rw [bitsI_length] at ho9 ⊢; have OQ := Lib.hid ho9; have HB9 := Lib.hid hb9; clear ho9 hb9))
      | (go_at_call 94; go_must (refine (constant_any (xs.length + 1) 0 _ (by omega)).mono ?_; rintro e w10 ⟨v10, rfl, ho10, hb10⟩; have OR : Hid (OwnI w10 w8.heap.size v10 (bitsI (xs.length + 1) 0)) := ho10.mono HB9.out.size; have OQ' := Lib.hid (OQ.out.below hb10); have HB10 : Hid (Below w8.heap.size w8 w10) := HB9.out.trans (hb10.mono HB9.out.size); clear ho10 hb10 OQ HB9)))
    -- LOOP
    have HX4 := Lib.hid X4.out
    have DSP : Hid (∀ i, i ≤ xs.length → Grew (108 * i) d2.g (divK d2.g d1.out wd xs.length i).g ∧ areLit (divK d2.g d1.out wd xs.length i).g (divK d2.g d1.out wd xs.length i).q ∧ areLit (divK d2.g d1.out wd xs.length i).g (divK d2.g d1.out wd xs.length i).r ∧ (divK d2.g d1.out wd xs.length i).q.length = xs.length ∧ (divK d2.g d1.out wd xs.length i).r.length = xs.length + 1) := fun i hi => divK_spec X4.out WX.out hx8 i (by have := G6.out.nodes; omega)
    go_loopw [15, 16, 17, 18] (fun u15 u16 _ _ wr => ∃ (K : Int) (i : Nat) (v : Value), v = u15 ∧ K + i = nm ∧ -1 ≤ K ∧ u16 = .int .i64 K ∧ OwnI wr w8.heap.size v (divK d2.g d1.out wd xs.length i).r ∧ OwnI wr w8.heap.size (.slice (some ⟨Q, 0, none⟩) xs.length cq) (divK d2.g d1.out wd xs.length i).q ∧ Fr B0 [116, 123] [m] w8 wr ∧ w10.heap.size ≤ wr.heap.size ∧ Env B0 p m g (216 + 108 * i) wr (divK d2.g d1.out wd xs.length i).g) (fun _ i _ _ _ => (intOf i + 1).toNat)
    case atStart => exact ⟨nm, 0, _, rfl, by omega, by omega, rfl, OR.out, OQ'.out, Fr.of_below HB10.out, Nat.le_refl _, E8.out.below HB10.out⟩
    case round =>
      obtain ⟨K, i, v, rfl, hKi, hK1, rfl, hown, hq, hfr, hsz, henv⟩ := hrel
      by_cases hK : 0 ≤ K
      · obtain ⟨k, rfl⟩ := Int.eq_ofNat_of_zero_le hK
        have DS := Lib.hid (DSP.out i (by have := hnmI.out; omega))
        have hkx : k < xs.length := by have := hnmI.out; omega
        obtain ⟨ba, oa, ax, rfl, hax, hca⟩ := (SA.out.fr hfr (by decide)).at_ (k := k) (by have := L4.out; omega)
        have hax' : Hid (d1.out.getD k 0 = ax) := getD_of hax
        have hnext : Hid (divK d2.g d1.out wd xs.length (i + 1) = divStep d1.out wd xs.length k (divK d2.g d1.out wd xs.length i)) := by
          show _ = _; rw [divK, show xs.length - 1 - i = k from by have := hnmI.out; omega]
        have HAX := Lib.hid hax
        have HKI := Lib.hid hKi
        have hkI : (k : Int) < (d1.out.length : Int) := by have := L4.out; omega
        have hkI2 : (k : Int) < (xs.length : Int) := by omega
        have hwk : IntKind.i64.wrap (k : Int) = (k : Int) := by rw [IntKind.wrap_i64]; omega
        clear hax hKi hK hK1
        generalize hST : divK d2.g d1.out wd xs.length i = st at DS hnext hown hq henv
        clear hST
        obtain ⟨R, cr, rfl, hR⟩ := hown.form (by have := DS.out.2.2.2.2; omega)
        rw [DS.out.2.2.2.2]
        have hrc : (xs.length : Int) ≤ (cr : Int) := by
          obtain ⟨Ax, cx, ex, hx⟩ := hown.sl B0
          injection ex with _ _ e3
          have := hx.1; have := DS.out.2.2.2.2; omega
        have HSR : Hid (SlI wr B0 (some ⟨R, 0, none⟩) cr st.r) := by
          obtain ⟨Ax, cx, ex, hx⟩ := hown.sl B0
          injection ex with e1 _ e3
          subst e1 e3
          exact hx
        have HQ0 := Lib.hid hq
        have HFR := Lib.hid hfr
        have HENV := Lib.hid henv
        have hQs : Q < w10.heap.size := (OQ'.out.lt Q rfl).2
        have HQS : Hid (Q < wr.heap.size) := by show _ < _; omega
        have LA : Hid (isLit st.g ax) := by have := (DS.out.1.lits HX4.out).getD k; rwa [hax'.out] at this
        have hE1 : Hid (g.nodes + (216 + 108 * i) + 216 ≤ 65536) := by show _ ≤ _; have := hnmI.out; have := HKI.out; omega
        clear hown hq hfr henv hQs
        obtain ⟨rs, hrs⟩ : ∃ rs, [ax] ++ st.r.take xs.length = rs := ⟨_, rfl⟩
        obtain ⟨wn, hwn2⟩ : ∃ wn, wd.map notL = wn := ⟨_, rfl⟩
        have hrsl : rs.length = xs.length + 1 := by rw [← hrs]; simp [List.length_take]; have := DS.out.2.2.2.2; omega
        have hrsx : areLit st.g rs := by
          rw [← hrs]
          intro z hz
          rcases List.mem_cons.1 hz with h | h
          · rw [h]; exact LA.out
          · exact DS.out.2.2.1 z (List.mem_of_mem_take h)
        have hwnl : wn.length = xs.length + 1 := by rw [← hwn2]; simp; exact WL.out
        have hwnx : areLit st.g wn := by rw [← hwn2]; exact (DS.out.1.lits WX.out).map_notL
        obtain ⟨u, hu⟩ : ∃ u, sumF st.g rs wn 1 = u := ⟨_, rfl⟩
        obtain ⟨ch, hch⟩ : ∃ ch, chooseF u.g u.c u.out rs = ch := ⟨_, rfl⟩
        have hds : divStep d1.out wd xs.length k st = ⟨ch.g, st.q.set k u.c, ch.out⟩ := by
          unfold divStep
          have hrs' : ax :: st.r.take xs.length = rs := hrs
          simp only [hax'.out, hrs', hwn2, hu, hch]
        rw [hds] at hnext
        have HRS := Lib.hid hrs
        have HRSL := Lib.hid hrsl
        have HRSX := Lib.hid hrsx
        have HWN := Lib.hid hwn2
        have HWNL := Lib.hid hwnl
        have HWNX := Lib.hid hwnx
        have HU := Lib.hid hu
        have HCH := Lib.hid hch
        have HTK : Hid ((st.r.take xs.length).length = xs.length) := by show _ = _; rw [List.length_take]; have := DS.out.2.2.2.2; omega
        clear hrs hrsl hrsx hwn2 hwnl hwnx hu hch hds
        go_wp2
        refine wp_region_G [4, 8] [(3, fun w' => w'.cell? ⟨ba, oa + k, none⟩ = some (.int .i64 ax))] (by kernel_rfl) ?_
        refine wpG_take (i := 0) (v := ?_) rfl (by kernel_rfl) rfl (by kernel_rfl) (by kernel_rfl) (fun _ _ _ h => h) (by rfl) ?_ (asks_none rfl _) ?_
        rotate_left
        · intro w _; go_simp; rfl
        simp only [Act.put, List.getElem_toArray, List.getElem_cons_zero, List.getElem_cons_succ, List.setIfInBounds_toArray, List.set_cons_zero, List.set_cons_succ]
        refine wpG_take (i := 1) (v := ?_) rfl (by kernel_rfl) rfl (by kernel_rfl) (by kernel_rfl) (fun _ _ _ h => h) (by rfl) ?_ (asks_none rfl _) ?_
        rotate_left
        · intro w _; go_simp; rfl
        simp only [Act.put, List.getElem_toArray, List.getElem_cons_zero, List.getElem_cons_succ, List.setIfInBounds_toArray, List.set_cons_zero, List.set_cons_succ]
        refine wpG_take (i := 2) (v := ?_) rfl (by kernel_rfl) rfl (by kernel_rfl) (by kernel_rfl) (fun _ _ _ h => h) (by rfl) ?_ (asks_none rfl _) ?_
        rotate_left
        · intro w _; go_simp; rfl
        simp only [Act.put, List.getElem_toArray, List.getElem_cons_zero, List.getElem_cons_succ, List.setIfInBounds_toArray, List.set_cons_zero, List.set_cons_succ]
        refine wpG_take (i := 3) (v := ?_) rfl (by kernel_rfl) rfl (by kernel_rfl) (by kernel_rfl) (fun _ _ _ h => h) (by rfl) ?_ (by simp [asksOf]; exact hca) ?_
        rotate_left
        · intro w hw; simp [asksOf] at hw; go_simp; rfl
        simp only [Act.put, List.getElem_toArray, List.getElem_cons_zero, List.getElem_cons_succ, List.setIfInBounds_toArray, List.set_cons_zero, List.set_cons_succ]
        refine wpG_take (i := 5) (v := ?_) rfl (by kernel_rfl) rfl (by kernel_rfl) (by kernel_rfl) (fun _ _ _ h => h) (by rfl) ?_ (asks_none rfl _) ?_
        rotate_left
        · intro w _; go_simp; rfl
        simp only [Act.put, List.getElem_toArray, List.getElem_cons_zero, List.getElem_cons_succ, List.setIfInBounds_toArray, List.set_cons_zero, List.set_cons_succ]
        refine wpG_take (i := 6) (v := ?_) rfl (by kernel_rfl) rfl (by kernel_rfl) (by kernel_rfl) (fun _ _ _ h => h) (by rfl) ?_ (asks_none rfl _) ?_
        rotate_left
        · intro w _; go_simp; rfl
        simp only [Act.put, List.getElem_toArray, List.getElem_cons_zero, List.getElem_cons_succ, List.setIfInBounds_toArray, List.set_cons_zero, List.set_cons_succ]
        refine wpG_take (i := 7) (v := ?_) rfl (by kernel_rfl) rfl (by kernel_rfl) (by kernel_rfl) (fun _ _ _ h => h) (by rfl) ?_ (asks_none rfl _) ?_
        rotate_left
        · intro w _; go_simp; rfl
        simp only [Act.put, List.getElem_toArray, List.getElem_cons_zero, List.getElem_cons_succ, List.setIfInBounds_toArray, List.set_cons_zero, List.set_cons_succ]
        refine wpG_loud (i := 4) rfl rfl rfl (by kernel_rfl) (fun K hK => ?_)
        go_simp
        refine hK _ _ ?_ ?_
        · intro q hq hwt; simp only [List.mem_cons, List.not_mem_nil, or_false] at hq; rcases hq with rfl
          · exact Bool.noConfusion (hwt.symm.trans (show _ = true from by kernel_rfl))
        clear hK K
        try simp only [Act.put, List.getElem_toArray, List.getElem_cons_zero, List.getElem_cons_succ, List.setIfInBounds_toArray, List.set_cons_zero, List.set_cons_succ]
        refine wpG_loud (i := 8) rfl rfl rfl (by kernel_rfl) (fun K hK => ?_)
        refine wp_appAll (F := Value.int .i64) (B0 := B0) oneInt 24 8 Try.underlying24 Try.info3 rfl _ _ (by rfl) (own_new (Value.int .i64) 3 wr.drew wr.heap.size (Nat.le_refl _) [ax] (by simp)) (((HSR.out.drew).alloc _).take (by have := DS.out.2.2.2.2; omega)) HTK.out (by rfl) (by rfl) ?b1 ?b2 ?b3 ?_
        case b1 => simp; omega
        case b2 => simp; omega
        case b3 => simp
        intro v11 w11 ho11 hg11
        rw [HRS.out] at ho11
        have hb11 : Below wr.heap.size wr w11 := ((below_drewN (Below.refl _ _) 1).alloc (Nat.le_refl _) _ : Below wr.heap.size wr (wr.drew.alloc _)).grown hg11 (by simp) (fun j hj => by have e : (wr.drewN 1).heap.size = wr.heap.size := rfl; simp [Value.ownBlock] at hj; omega)
        have hca2 := (SA.out.fr (HFR.out.trans (Fr.of_below hb11 : Fr B0 [116, 123] [m] wr w11)) (by decide)).cell HAX.out
        have HB11 := Lib.hid hb11
        obtain ⟨R1, cr1, rfl, hR1⟩ := ho11.form (by rw [HRSL.out]; omega)
        rw [HRSL.out] at ho11 ⊢
        have HO11 := Lib.hid ho11
        have HSR1 : Hid (SlI w11 B0 (some ⟨R1, 0, none⟩) cr1 rs) := by
          obtain ⟨Ax, cx, ex, hx⟩ := ho11.sl B0
          injection ex with e1 _ e3
          subst e1 e3
          exact hx
        clear ho11 hg11 hb11 hca
        refine hK _ _ ?_ ?_
        · intro q hq hwt; simp only [List.mem_cons, List.not_mem_nil, or_false] at hq; rcases hq with rfl
          · exact hca2
        clear hK K hca2
        try simp only [Act.put, List.getElem_toArray, List.getElem_cons_zero, List.getElem_cons_succ, List.setIfInBounds_toArray, List.set_cons_zero, List.set_cons_succ]
        refine wpG_take (i := 9) (v := ?_) rfl (by kernel_rfl) rfl (by kernel_rfl) (by kernel_rfl) (fun _ _ _ h => h) (by rfl) ?_ (asks_none rfl _) ?_
        rotate_left
        · intro w _; go_simp; rfl
        simp only [Act.put, List.getElem_toArray, List.getElem_cons_zero, List.getElem_cons_succ, List.setIfInBounds_toArray, List.set_cons_zero, List.set_cons_succ]
        refine wpG_done (by kernel_rfl) ?_
        go_wp2_with (first
          | (go_at_call 105; go_must (refine (inverse_n (B0 := B0) (xs := wd) WL.out (by omega) (WX.out.bound (by have := G6.out.nodes; omega)) (S8.out.fr (HFR.out.trans (Fr.of_below HB11.out : Fr B0 [116, 123] [m] wr w11)) (by decide))).mono ?_; rw [HWN.out]; rintro e w12 ⟨v12, rfl, ho12, hb12⟩; obtain ⟨A12, c12, rfl, hs12⟩ := ho12.sl B0; rw [HWNL.out]; have HS12 := Lib.hid hs12; have HB12 : Hid (Below wr.heap.size wr w12) := HB11.out.trans (hb12.mono HB11.out.size); have HB1112 := Lib.hid hb12; clear ho12 hs12 hb12))
          | (go_at_call 104; go_must (refine (env_sum (xs := rs) (ys := wn) (HENV.out.below HB12.out) (by have := hE1.out; omega) HRSL.out HWNL.out (by omega) (lit_one _) HRSX.out HWNX.out (HSR1.out.below HB1112.out) HS12.out).mono ?_; rw [HU.out]; rintro e w13 ⟨A13, c13, rfl, ho13, hs13, hl13, hx13, hc13, hg13, he13, hf13⟩; have HO13 := Lib.hid ho13; have HL13 := Lib.hid hl13; have HX13 := Lib.hid hx13; have HC13 := Lib.hid hc13; have HG13 := Lib.hid hg13; have HE13 := Lib.hid he13; have HF13 := Lib.hid hf13; have hq13 := (HQ0.out.below HB12.out).fr hf13 (by decide); obtain ⟨z, _, hcG⟩ := hq13.cell DS.out.2.2.2.1 k hkx; have hfG := hq13.frozen DS.out.2.2.2.1 k; have HQ13 := Lib.hid hq13; clear ho13 hs13 hl13 hx13 hc13 hg13 he13 hf13 hq13))
          | (go_at_call 103; go_must (obtain ⟨cs, hcs⟩ := HQ13.out.blk; have hQ12 : Q < w12.heap.size := (by have := HB12.out.size; have := HQS.out; omega); have HOL := Lib.hid (HO13.out.setCell_ne (j := k) hQ12 (.int .i64 u.c)); have HOR := Lib.hid (((HO11.out.below HB1112.out).fr HF13.out (by decide)).setCell_ne (j := k) HQS.out (.int .i64 u.c)); have HSL : Hid (SlI (w13.setCell ⟨Q, k, none⟩ (.int .i64 u.c)) B0 A13 c13 u.out) := (by obtain ⟨Ax, cx, ex, hx⟩ := HOL.out.sl B0; injection ex with e1 _ e3; subst e1 e3; exact hx); have HSRR : Hid (SlI (w13.setCell ⟨Q, k, none⟩ (.int .i64 u.c)) B0 (some ⟨R1, 0, none⟩) cr1 rs) := (by obtain ⟨Ax, cx, ex, hx⟩ := HOR.out.sl B0; injection ex with e1 _ e3; subst e1 e3; exact hx); refine (env_choose (xs := u.out) (ys := rs) (HE13.out.setCell_far (q := ⟨Q, k, none⟩) hcs (by decide) (by decide) (.int .i64 u.c)) (by have := hE1.out; omega) HL13.out HRSL.out (by omega) HC13.out HX13.out (HG13.out.lits HRSX.out) HSL.out HSRR.out).mono ?_; rw [HCH.out]; rintro e w15 ⟨A15, c15, rfl, ho15, hs15, hl15, hx15, hg15, he15, hf15⟩; have HO15 := Lib.hid ho15; have HE15 := Lib.hid he15; have HQ15 := Lib.hid ((HQ13.out.set DS.out.2.2.2.1 k u.c).fr hf15 (by decide)); have HF15 : Hid (Fr B0 [116, 123] [m] w8 w15) := ((((HFR.out.trans (Fr.of_below HB12.out)).trans HF13.out).setCell_fresh (p := ⟨Q, k, none⟩) hQ _).trans hf15); have HZ15 : Hid (wr.heap.size ≤ w15.heap.size) := (by show _ ≤ _; have h15 := hf15.size; rw [size_setCell] at h15; have h13 := HF13.out.size; have h12 := HB12.out.size; omega); have HZ14 : Hid (w8.heap.size ≤ (w13.setCell ⟨Q, k, none⟩ (.int .i64 u.c)).heap.size) := (by show _ ≤ _; rw [size_setCell]; have h8 := HFR.out.size; have h13 := HF13.out.size; have h12 := HB12.out.size; omega); clear ho15 hs15 hl15 hx15 hg15 he15 hf15)))
        go_roundw
        case rel =>
          refine ⟨(k : Int) - 1, i + 1, _, rfl, by have := HKI.out; omega, by omega, by go_num, ?_⟩
          rw [hnext.out]
          refine ⟨HO15.out.mono HZ14.out, HQ15.out, HF15.out, by have := HZ15.out; omega, ?_⟩
          rw [show 216 + 108 * (i + 1) = 216 + 108 * i + 81 + 27 by omega]
          exact HE15.out
        case measure => first | (simp [intOf]; done) | (simp [intOf]; omega)
      · obtain rfl : K = -1 := by omega
        obtain rfl : i = xs.length := by have := hnmI.out; omega
        have DS := Lib.hid (DSP.out xs.length (Nat.le_refl _))
        clear hKi hK hK1
        generalize hST : divK d2.g d1.out wd xs.length xs.length = st at DS e hown hq henv
        clear hST
        obtain ⟨R, cr, rfl, hR⟩ := hown.form (by have := DS.out.2.2.2.2; omega)
        rw [DS.out.2.2.2.2]
        obtain ⟨rt, hrt⟩ : ∃ rt, st.r.take xs.length = rt := ⟨_, rfl⟩
        have RTL : Hid (rt.length = xs.length) := by show _ = _; rw [← hrt, List.length_take]; have := DS.out.2.2.2.2; omega
        have RTX : Hid (areLit st.g rt) := by show areLit _ _; rw [← hrt]; exact fun z hz => DS.out.2.2.1 z (List.mem_of_mem_take hz)
        have hrc : (xs.length : Int) ≤ (cr : Int) := by
          obtain ⟨Ax, cx, ex, hx⟩ := hown.sl B0
          injection ex with _ _ e3
          have := hx.1; have := DS.out.2.2.2.2; omega
        have SR : Hid (SlI wr B0 (some ⟨R, 0, none⟩) cr rt) := by
          obtain ⟨Ax, cx, ex, hx⟩ := hown.sl B0
          injection ex with e1 _ e3
          subst e1 e3
          rw [← hrt]
          exact hx.take (by have := DS.out.2.2.2.2; omega)
        have SQ : Hid (SlI wr B0 (some ⟨Q, 0, none⟩) cq st.q) := by
          obtain ⟨Ax, cx, ex, hx⟩ := hq.sl B0
          injection ex with e1 _ e3
          subst e1 e3
          exact hx
        obtain ⟨h, hh⟩ : ∃ r, xorF st.g sx sy = r := ⟨_, rfl⟩
        obtain ⟨n3, hn3⟩ : ∃ r, negF h.1 st.q = r := ⟨_, rfl⟩
        obtain ⟨d3, hd3⟩ : ∃ r, chooseF n3.g h.2 n3.out st.q = r := ⟨_, rfl⟩
        obtain ⟨n4, hn4⟩ : ∃ r, negF d3.g rt = r := ⟨_, rfl⟩
        obtain ⟨d4, hd4⟩ : ∃ r, chooseF n4.g sx n4.out rt = r := ⟨_, rfl⟩
        obtain ⟨zc, hzc⟩ : ∃ r, bitsI xs.length 0 = r := ⟨_, rfl⟩
        obtain ⟨z, hz⟩ : ∃ r, equalF d4.g ys zc = r := ⟨_, rfl⟩
        obtain ⟨d5, hd5⟩ : ∃ r, chooseF z.g z.x zc d3.out = r := ⟨_, rfl⟩
        obtain ⟨d6, hd6⟩ : ∃ r, chooseF d5.g z.x xs d4.out = r := ⟨_, rfl⟩
        have hfin : divZ st xs ys = ⟨d6.g, d5.out, d6.out⟩ := by unfold divZ; simp only [hsx.out, hsy.out, hrt, hh, hn3, hd3, hn4, hd4, hzc, hz, hd5, hd6]
        rw [hfin] at e
        have ZCL : Hid (zc.length = xs.length) := by show _ = _; rw [← hzc, bitsI_length]
        have ZCX : Hid (∀ q : GS, areLit q zc) := fun q => by rw [← hzc]; exact areLit.bits _ _
        have HH := Lib.hid hh
        have N3 := Lib.hid hn3
        have D3 := Lib.hid hd3
        have N4 := Lib.hid hn4
        have D4 := Lib.hid hd4
        have ZC := Lib.hid hzc
        have HZ := Lib.hid hz
        have D5 := Lib.hid hd5
        have D6 := Lib.hid hd6
        have GS0 : Hid (Grew (216 + 108 * xs.length) g st.g) := henv.grew
        have LSX : Hid (isLit st.g sx) := henv.grew.lit hlx.out
        have LSY : Hid (isLit st.g sy) := henv.grew.lit hly.out
        have EV := Lib.hid henv
        have F0 : Hid (Fr B0 [116, 123] [m] w wr) := F8.out.trans hfr
        clear hown hq hfr hsz henv hrt hfin hh hn3 hd3 hn4 hd4 hzc hz hd5 hd6 hR
        go_wp2_with (first
          | (go_at_call 106; go_must (refine (env_xor EV.out (by omega) LSX.out LSY.out).mono ?_; rw [HH.out]; rintro e20 wa ⟨rfl, hxa, hga, hea, hfa⟩; have LH := Lib.hid hxa; have GA := Lib.hid hga; have EA := Lib.hid hea; have FA := Lib.hid hfa; clear hxa hga hea hfa))
          | (go_at_call_of 46 (Value.slice (some ⟨Q, 0, none⟩) xs.length cq); go_must (refine (env_neg (xs := st.q) EA.out (by omega) DS.out.2.2.2.1 hx1 hx8 (GA.out.lits DS.out.2.1) (SQ.out.fr FA.out (by decide))).mono ?_; rw [N3.out]; rintro e21 wb ⟨Ab, cb, rfl, -, hs, hl, hx, hg, he, hf⟩; have SB := Lib.hid hs; have LB := Lib.hid hl; have XB := Lib.hid hx; have GB := Lib.hid (GA.out.trans hg); have GB1 := Lib.hid hg; have EB := Lib.hid he; have FB := Lib.hid (FA.out.trans hf); clear hs hl hx hg he hf))
          | (go_at_call_of 103 (Value.slice Ab xs.length cb); go_must (refine (env_choose (xs := n3.out) (ys := st.q) EB.out (by omega) LB.out DS.out.2.2.2.1 (by omega) (GB1.out.lit LH.out) XB.out (GB.out.lits DS.out.2.1) SB.out (SQ.out.fr FB.out (by decide))).mono ?_; rw [D3.out]; rintro e22 wc ⟨Ac, cc, rfl, -, hs, hl, hx, hg, he, hf⟩; have SC := Lib.hid hs; have LC := Lib.hid hl; have XC := Lib.hid hx; have GC := Lib.hid (GB.out.trans hg); have EC := Lib.hid he; have FC := Lib.hid (FB.out.trans hf); clear hs hl hx hg he hf))
          | (go_at_call_of 46 (Value.slice (some ⟨R, 0, none⟩) xs.length cr); go_must (refine (env_neg (xs := rt) EC.out (by omega) RTL.out hx1 hx8 (GC.out.lits RTX.out) (SR.out.fr FC.out (by decide))).mono ?_; rw [N4.out]; rintro e23 wd4 ⟨Ad, cd, rfl, -, hs, hl, hx, hg, he, hf⟩; have SD := Lib.hid hs; have LD := Lib.hid hl; have XD := Lib.hid hx; have GD := Lib.hid (GC.out.trans hg); have ED := Lib.hid he; have FD := Lib.hid (FC.out.trans hf); have SC4 := Lib.hid (SC.out.fr hf (by decide)); have XC4 := Lib.hid (hg.lits XC.out); clear hs hl hx hg he hf))
          | (go_at_call_of 103 (Value.slice Ad xs.length cd); go_must (refine (env_choose (xs := n4.out) (ys := rt) ED.out (by omega) LD.out RTL.out (by omega) (GD.out.lit LSX.out) XD.out (GD.out.lits RTX.out) SD.out (SR.out.fr FD.out (by decide))).mono ?_; rw [D4.out]; rintro e24 we ⟨Ae, ce, rfl, -, hs, hl, hx, hg, he, hf⟩; have SE := Lib.hid hs; have LE := Lib.hid hl; have XE := Lib.hid hx; have GE := Lib.hid (GD.out.trans hg); have EE := Lib.hid he; have FE := Lib.hid (FD.out.trans hf); have SC5 := Lib.hid (SC4.out.fr hf (by decide)); have XC5 := Lib.hid (hg.lits XC4.out); clear hs hl hx hg he hf))
          | (go_at_call 44; go_must (refine (env_equal (xs := ys) (ys := zc) EZ.out (by omega) HYLEN.out ZCL.out hx1 hx8 ((GS0.out.trans GE.out).lits HYL.out) (ZCX.out _) (H2.out.fr (F0.out.trans FZ.out) (by decide)) SZ.out).mono ?_; rw [HZ.out]; rintro e26 wg ⟨rfl, hx, hg, he, hf⟩; have LZ := Lib.hid hx; have GG := Lib.hid (GE.out.trans hg); have EG := Lib.hid he; have FG := Lib.hid (FZ.out.trans hf); have SCG := Lib.hid (SCZ.out.fr hf (by decide)); have XCG := Lib.hid (hg.lits XC5.out); have SEG := Lib.hid (SEZ.out.fr hf (by decide)); have XEG := Lib.hid (hg.lits XE.out); clear hx hg he hf))
          | (go_at_call_of 103 (Value.slice Ac xs.length cc); go_must (refine (env_choose (xs := zc) (ys := d3.out) EY.out (by omega) ZCL.out LC.out (by omega) LZ.out (ZCX.out _) XCG.out SY.out SCY.out).mono ?_; rw [D5.out]; rintro e28 wi ⟨Ai, ci, rfl, -, hs, hl, hx, hg, he, hf⟩; have SI := Lib.hid hs; have LI := Lib.hid hl; have XI := Lib.hid hx; have GI := Lib.hid (GG.out.trans hg); have EI := Lib.hid he; have FI := Lib.hid (FY.out.trans hf); have SEI := Lib.hid (SEY.out.fr hf (by decide)); have XEI := Lib.hid (hg.lits XEG.out); have LZI := Lib.hid (hg.lit LZ.out); clear hs hl hx hg he hf))
          | (go_at_call_of 103 (Value.slice Ae xs.length ce); go_must (refine (env_choose (xs := xs) (ys := d4.out) EI.out (by omega) rfl LE.out (by omega) LZI.out ((GS0.out.trans GI.out).lits HXL.out) XEI.out (H1.out.fr (F0.out.trans FI.out) (by decide)) SEI.out).mono ?_; rw [D6.out]; rintro e29 wj ⟨Aj, cj, rfl, -, hs, hl, hx, hg, he, hf⟩; have SJ := Lib.hid hs; have LJ := Lib.hid hl; have EJ := Lib.hid he; have FJ := Lib.hid (FI.out.trans hf); have SIJ := Lib.hid (SI.out.fr hf (by decide)); clear hs hl hx hg he hf))
          | (go_at_call_of 94 (Value.int IntKind.i64 (xs.length : Int)); have _t := EG; go_must (refine (constant_any xs.length 0 _ (by omega)).mono ?_; rw [ZC.out]; rintro e27 wh ⟨vh, rfl, ho, hb⟩; obtain ⟨Ah, ch, rfl, hs⟩ := ho.sl B0; rw [ZCL.out]; have SY := Lib.hid hs; have EY := Lib.hid (EG.out.below hb); have FY : Hid (Fr B0 [116, 123] [m] wr wh) := FG.out.trans (Fr.of_below hb); have SCY := Lib.hid (SCG.out.below hb); have SEY := Lib.hid (SEG.out.below hb); clear ho hb hs))
          | (go_at_call_of 94 (Value.int IntKind.i64 (xs.length : Int)); go_must (refine (constant_any xs.length 0 _ (by omega)).mono ?_; rw [ZC.out]; rintro e25 wf ⟨vf, rfl, ho, hb⟩; obtain ⟨Af, cf, rfl, hs⟩ := ho.sl B0; rw [ZCL.out]; have SZ := Lib.hid hs; have EZ := Lib.hid (EE.out.below hb); have FZ : Hid (Fr B0 [116, 123] [m] wr wf) := FE.out.trans (Fr.of_below hb); have SCZ := Lib.hid (SC5.out.below hb); have SEZ := Lib.hid (SE.out.below hb); clear ho hb hs)))
        go_ret2
        obtain ⟨A', c', hbd⟩ := EJ.out.bd
        refine ⟨Ai, ci, Aj, cj, A', c', ?_, ?_, ?_, ?_, F0.out.trans FJ.out⟩
        · show Ending.returned (.tuple #[.slice Ai xs.length ci, .slice Aj xs.length cj]) = _
          rw [e.out]; dsimp only; rw [LI.out, LJ.out]
        · rw [e.out]; exact SIJ.out
        · rw [e.out]; exact SJ.out
        · rw [e.out]; exact hbd
  · have hok := okW_no h
    have e : Hid (divideF g xs ys = ⟨g, [], []⟩) := if_neg h
    clear hb h1 h2 h hxl hyl hw
    go_enter Try.func39, Try.ntmps39
    go_wp2_with (go_at_call 102; refine (words_any [xs, ys] _ 2 B0 _ (slw_two H1.out H2.out) (by simp) (by simp)).mono ?_; rintro e w' ⟨rfl, rfl⟩)
    go_ret2
    refine ⟨none, 0, none, 0, A, c, ?_, ?_, ?_, ?_, Fr.of_below (below_alloc _ _)⟩
    · rw [e.out]; rfl
    · rw [e.out]; exact SlOf.nil _ _
    · rw [e.out]; exact SlOf.nil _ _
    · rw [e.out]; exact HB.out.below (below_alloc _ _)
end
end Go.Proofs.Ytgmcajojigedaaa
