/- The walk of the law BlastOperators. -/
import Derived.Test.YtgmcajojigedaaaHe
set_option linter.unusedSimpArgs false
set_option linter.unusedVariables false
namespace Go.Proofs.Ytgmcajojigedaaa
open Go.RowKit

set_option maxRecDepth 100000 in
set_option maxHeartbeats 8000000 in
theorem ops_f (q : Nat) (h2 : 2 ≤ q) (h8 : q ≤ 8) (x0 y0 : Int) (w : World) :
    Calls Try.prog 6 #[.int .i64 q, .int .i64 x0, .int .i64 y0, .bool false] w fun e w' => e = .returned (.bool true) ∧ Below w.heap.size w w' := by
  obtain ⟨x, hx⟩ : ∃ x, wrapW q x0 = x := ⟨_, rfl⟩
  obtain ⟨y, hy⟩ : ∃ y, wrapW q y0 = y := ⟨_, rfl⟩
  have hxi : inW q x := by rw [← hx]; exact wrapW_in _ (by omega) (by omega)
  have hyi : inW q y := by rw [← hy]; exact wrapW_in _ (by omega) (by omega)
  have hxb := wrapW_small q x0
  have hyb := wrapW_small q y0
  rw [hx] at hxb
  rw [hy] at hyb
  obtain ⟨xb1, xb2⟩ := hxb
  obtain ⟨yb1, yb2⟩ := hyb
  have hxx := wrapW_of_in hxi
  have hyy := wrapW_of_in hyi
  obtain ⟨z, hz⟩ : ∃ z, x * y = z := ⟨_, rfl⟩
  have hzb : z.natAbs ≤ 16384 := by rw [← hz, Int.natAbs_mul]; exact Nat.mul_le_mul (show x.natAbs ≤ 128 by omega) (show y.natAbs ≤ 128 by omega)
  have zb1 : -16384 ≤ z := by omega
  have zb2 : z ≤ 16384 := by omega
  obtain ⟨N, hN⟩ : ∃ N, N = 2 * q + 1 := ⟨_, rfl⟩
  have N17 : N ≤ 17 := by omega
  obtain ⟨d, hd⟩ : ∃ d, divideF (opsG q) (wordN 0 q) (wordN q q) = d := ⟨_, rfl⟩
  obtain ⟨n, hn⟩ : ∃ n, negF d.g (wordN 0 q) = n := ⟨_, rfl⟩
  obtain ⟨s, hs⟩ : ∃ s, addF n.g (wordN 0 q) (wordN q q) = s := ⟨_, rfl⟩
  obtain ⟨b, hb⟩ : ∃ b, subF s.g (wordN 0 q) (wordN q q) = b := ⟨_, rfl⟩
  obtain ⟨mm, hm⟩ : ∃ mm, mulF b.g (wordN 0 q) (wordN q q) = mm := ⟨_, rfl⟩
  obtain ⟨ch, hc⟩ : ∃ ch, chooseF2 mm.g (opsL q) (wordN 0 q) (wordN q q) = ch := ⟨_, rfl⟩
  obtain ⟨eq, he⟩ : ∃ eq, equalF ch.g (wordN 0 q) (wordN q q) = eq := ⟨_, rfl⟩
  obtain ⟨ls, hl⟩ : ∃ ls, lessF eq.g (wordN 0 q) (wordN q q) = ls := ⟨_, rfl⟩
  have ok := ops_sem (c := false) h2 h8 hxi hyi hd hn hs hb hm hc he hl
  obtain ⟨Q, hQ⟩ : ∃ Q, quoW q x y = Q := ⟨_, rfl⟩
  obtain ⟨R, hR⟩ : ∃ R, remW q x y = R := ⟨_, rfl⟩
  obtain ⟨v1, hv1⟩ : ∃ v, wrapW q (-x) = v := ⟨_, rfl⟩
  obtain ⟨v2, hv2⟩ : ∃ v, wrapW q (x + y) = v := ⟨_, rfl⟩
  obtain ⟨v3, hv3⟩ : ∃ v, wrapW q (x - y) = v := ⟨_, rfl⟩
  obtain ⟨v4, hv4⟩ : ∃ v, wrapW q z = v := ⟨_, rfl⟩
  have t1 := ok.oq
  have t2 := ok.or
  have t3 := ok.on
  have t4 := ok.os
  have t5 := ok.ob
  have t6 := ok.om
  have t7 : Okv q (opsIns q x y false) ch.g ch.out y := ok.oc
  have ve := ok.ve
  have vl := ok.vl
  obtain ⟨ins, hins⟩ : ∃ ins, opsIns q x y false = ins := ⟨_, rfl⟩
  rw [hz] at t6
  rw [hQ] at t1
  rw [hR] at t2
  rw [hv1] at t3
  rw [hv2] at t4
  rw [hv3] at t5
  rw [hv4] at t6
  rw [hins] at t1 t2 t3 t4 t5 t6 t7 ve vl
  have hil : ins.length = N := by rw [← hins, opsIns_length, hN]
  have hci : ins.length = ch.g.inputs := by rw [hil, hN]; exact ok.inp.symm
  have hli : ins.length = ls.g.inputs := by rw [hil, hN]; exact ok.linp.symm
  have hX : areLit (opsG q) (wordN 0 q) := fun u hu => by
    simp only [wordN, List.mem_map, List.mem_range] at hu
    obtain ⟨j, hj, rfl⟩ := hu
    unfold isLit opsG GS.nodes; simp; omega
  have hY : areLit (opsG q) (wordN q q) := fun u hu => by
    simp only [wordN, List.mem_map, List.mem_range] at hu
    obtain ⟨j, hj, rfl⟩ := hu
    unfold isLit opsG GS.nodes; simp; omega
  have hL : isLit (opsG q) (opsL q) := by unfold isLit opsL opsG GS.nodes; simp; omega
  have hgw := opsG_wf h8
  have hg18 : (opsG q).nodes ≤ 18 := by unfold opsG GS.nodes; simp; omega
  have hgn : (⟨N, []⟩ : GS) = opsG q := by rw [hN]; rfl
  have hokN : okN (wordN 0 q) (wordN q q) = q := by unfold okN; rw [if_pos ⟨by rw [wordN_length]; omega, by rw [wordN_length]; omega, by rw [wordN_length, wordN_length]⟩, wordN_length]
  have hokN1 : okN1 (wordN 0 q) = q := by unfold okN1; rw [if_pos ⟨by rw [wordN_length]; omega, by rw [wordN_length]; omega⟩, wordN_length]
  have hl0 : (wordN 0 q).length = q := wordN_length _ _
  have hl1 : (wordN q q).length = q := wordN_length _ _
  obtain ⟨g0, hg0⟩ : ∃ g0, opsG q = g0 := ⟨_, rfl⟩
  obtain ⟨X, hXe⟩ : ∃ X, wordN 0 q = X := ⟨_, rfl⟩
  obtain ⟨Y, hYe⟩ : ∃ Y, wordN q q = Y := ⟨_, rfl⟩
  obtain ⟨L, hLe⟩ : ∃ L, opsL q = L := ⟨_, rfl⟩
  rw [hg0] at hd hX hY hL hgw hg18 hgn
  rw [hXe] at hd hn hs hb hm hc he hl hX hokN hokN1 hl0
  rw [hYe] at hd hs hb hm hc he hl hY hokN hl1
  rw [hLe] at hc hL
  have k1 : IntKind.i64.wrap (-x) = -x := by rw [IntKind.wrap_i64]; omega
  have k2 : IntKind.i64.wrap (x + y) = x + y := by rw [IntKind.wrap_i64]; omega
  have k3 : IntKind.i64.wrap (x - y) = x - y := by rw [IntKind.wrap_i64]; omega
  have k4 : IntKind.i64.wrap (x * y) = z := by rw [hz, IntKind.wrap_i64]; omega
  have KK := Lib.hid (And.intro k1 (And.intro k2 (And.intro k3 k4)))
  have HX := Lib.hid hx
  have HY := Lib.hid hy
  have HXX := Lib.hid hxx
  have HYY := Lib.hid hyy
  have HN := Lib.hid hN
  have HD := Lib.hid hd
  have HNG := Lib.hid hn
  have HS := Lib.hid hs
  have HB := Lib.hid hb
  have HM := Lib.hid hm
  have HC := Lib.hid hc
  have HE := Lib.hid he
  have HL := Lib.hid hl
  have OK := Lib.hid ok
  have HQ := Lib.hid hQ
  have HR := Lib.hid hR
  have V1 := Lib.hid hv1
  have V2 := Lib.hid hv2
  have V3 := Lib.hid hv3
  have V4 := Lib.hid hv4
  have T1 := Lib.hid t1
  have T2 := Lib.hid t2
  have T3 := Lib.hid t3
  have T4 := Lib.hid t4
  have T5 := Lib.hid t5
  have T6 := Lib.hid t6
  have T7 := Lib.hid t7
  have VE := Lib.hid ve
  have VL := Lib.hid vl
  have HINS := Lib.hid hins
  have HIL := Lib.hid hil
  have HCI := Lib.hid hci
  have HLI := Lib.hid hli
  have AX := Lib.hid hX
  have AY := Lib.hid hY
  have AL := Lib.hid hL
  have GW := Lib.hid hgw
  have G18 := Lib.hid hg18
  have GN := Lib.hid hgn
  have ON := Lib.hid hokN
  have ON1 := Lib.hid hokN1
  have L0 := Lib.hid hl0
  have L1 := Lib.hid hl1
  have XE := Lib.hid hXe
  have YE := Lib.hid hYe
  have LE := Lib.hid hLe
  clear hxi hyi hzb hg0 hz k1 k2 k3 k4 hx hy hxx hyy hN hd hn hs hb hm hc he hl ok hQ hR hv1 hv2 hv3 hv4 t1 t2 t3 t4 t5 t6 t7 ve vl hins hil hci hli hX hY hL hgw hg18 hgn hokN hokN1 hl0 hl1 hXe hYe hLe
  go_enter Try.func6, Try.ntmps6
  go_wp2_with (first
    | (go_at_call 22; refine (awake_any _).mono ?_; rintro e w1 ⟨rfl, hb1⟩; have HB1 := Lib.hid hb1; clear hb1)
    | (go_at_call 23; refine (isWidth_yes _ _ (by omega) (by omega)).mono ?_; rintro e w1' ⟨rfl, rfl⟩)
    | (go_at_call_of 25 (Value.int .i64 x0); refine (wrap_any _ _ _).mono ?_; rintro e w1' ⟨rfl, rfl⟩; rw [HX.out])
    | (go_at_call_of 25 (Value.int .i64 y0); refine (wrap_any _ _ _).mono ?_; rintro e w1' ⟨rfl, rfl⟩; rw [HY.out])
    | (go_at_call 29; go_must (refine (words_ops q N h2 h8 HN (w1.alloc (.cells #[.int .i64 0, .int .i64 0, .int .i64 1] 3)) w.heap.size _ (by have := HB1.out.size; simp; omega) (three_new w1 w.heap.size 0 0 1)).mono ?_; rintro e w2 ⟨A2, c2, rfl, hs2, hb2⟩; rw [XE.out, YE.out, LE.out] at hs2; have hb12 : Below w1.heap.size w1 w2 := below_of1 hb2; have HB2 : Hid (Below w.heap.size w w2) := HB1.out.trans (hb12.mono HB1.out.size); have SW2 := Lib.hid hs2; have SO2 := Lib.hid ((three_new w1 w.heap.size 0 0 1).below hb2); clear hs2 hb2 hb12))
    | (go_at_call 26; go_must (refine (bits_ops q N h2 h8 HN x y 0 false HXX.out HYY.out rfl (w2.alloc (.cells #[.int .i64 x, .int .i64 y, .int .i64 0] 3)) w.heap.size _ _ _ (by have := HB2.out.size; simp; omega) (SO2.out.alloc _) (three_new w2 w.heap.size x y 0)).mono ?_; rintro e w3 ⟨A3, c3, rfl, hs3, hb3⟩; rw [HINS.out] at hs3; have hb23 : Below w2.heap.size w2 w3 := below_of1 hb3; have HB3 : Hid (Below w.heap.size w w3) := HB2.out.trans (hb23.mono HB2.out.size); have SW3 := Lib.hid (SW2.out.below hb23); have SI3 := Lib.hid hs3; clear hs3 hb3 hb23 SO2 SW2))
    | (go_at_call 36; go_must (refine (new_any N w3 (by omega)).mono ?_; rintro e w4 ⟨p, m, rfl, hbd, hb4⟩; rw [GN.out] at hbd; have HB4 : Hid (Below w.heap.size w w4) := HB3.out.trans (hb4.mono HB3.out.size); have E4 : Hid (Env w.heap.size p m g0 0 w4 g0) := (⟨HB4.out.size, ⟨none, 0, hbd.mono HB3.out.size⟩, GW.out, Grew.refl _ _⟩ : Env w.heap.size p m g0 0 w4 g0); have SW4 := Lib.hid (SW3.out.below hb4); have SI4 := Lib.hid (SI3.out.below hb4); clear hbd hb4 SW3 SI3))
    | (go_at_call 48; go_must (refine (bdivide_any q x y _).mono ?_; rw [HQ.out, HR.out]; rintro e w4' ⟨rfl, rfl⟩)))
  obtain ⟨bw, ow, A0, A1, c0, c1, c2, b3, o3, rfl, hs0, hs1, hcf⟩ := cf_open (q := q) (L := L) (c := c2) (by rw [XE.out, YE.out]; exact SW4.out)
  have CFH : Hid (∀ w', Fr w.heap.size [116, 123] [m] w4 w' → CF bw ow A0 A1 c0 c1 c2 q b3 o3 L w') := fun w' hf => hcf _ _ w' hf (by decide) (by decide)
  rw [XE.out] at hs0
  rw [YE.out] at hs1
  have S0 := Lib.hid hs0
  have S1 := Lib.hid hs1
  have F4 : Hid (Fr w.heap.size [116, 123] [m] w4 w4) := Fr.refl _ _ _ _
  have G4 : Hid (Grew 0 g0 g0) := Grew.refl _ _
  clear hs0 hs1 hcf
  have CW : Hid (CF bw ow A0 A1 c0 c1 c2 q b3 o3 L w4) := CFH.out w4 F4.out
  refine wp_region_G [7] [(3, fun w' => w'.cell? ⟨bw, ow, none⟩ = some (.slice A0 q c0)), (6, fun w' => w'.cell? ⟨bw, ow + 1, none⟩ = some (.slice A1 q c1))] (by kernel_rfl) ?_
  refine wpG_take (i := 0) (v := ?_) rfl (by kernel_rfl) rfl (by kernel_rfl) (by kernel_rfl) (fun _ _ _ h => h) (by rfl) ?_ (asks_none rfl _) ?_
  rotate_left
  · intro w _; go_simp; rfl
  simp only [Act.put, List.getElem_toArray, List.getElem_cons_zero, List.getElem_cons_succ, List.setIfInBounds_toArray, List.set_cons_zero, List.set_cons_succ]
  refine wpG_take (i := 1) (v := ?_) rfl (by kernel_rfl) rfl (by kernel_rfl) (by kernel_rfl) (fun _ _ _ h => h) (by rfl) ?_ (asks_none rfl _) ?_
  rotate_left
  · intro w _; go_simp; rfl
  simp only [Act.put, List.getElem_toArray, List.getElem_cons_zero, List.getElem_cons_succ, List.setIfInBounds_toArray, List.set_cons_zero, List.set_cons_succ]
  refine wpG_take (i := 2) (v := ?_) rfl (by kernel_rfl) rfl (by kernel_rfl) (by kernel_rfl) (fun _ _ _ h => h) (by rfl) ?_ (asks_none rfl _) ?_
  rotate_left
  · intro w _; go_simp; rfl
  simp only [Act.put, List.getElem_toArray, List.getElem_cons_zero, List.getElem_cons_succ, List.setIfInBounds_toArray, List.set_cons_zero, List.set_cons_succ]
  refine wpG_take (i := 3) (v := ?_) rfl (by kernel_rfl) rfl (by kernel_rfl) (by kernel_rfl) (fun _ _ _ h => h) (by rfl) ?_ (by simp [asksOf]; exact CW.out.1) ?_
  rotate_left
  · intro w hw; simp [asksOf] at hw; go_simp; rfl
  simp only [Act.put, List.getElem_toArray, List.getElem_cons_zero, List.getElem_cons_succ, List.setIfInBounds_toArray, List.set_cons_zero, List.set_cons_succ]
  refine wpG_take (i := 4) (v := ?_) rfl (by kernel_rfl) rfl (by kernel_rfl) (by kernel_rfl) (fun _ _ _ h => h) (by rfl) ?_ (asks_none rfl _) ?_
  rotate_left
  · intro w _; go_simp; rfl
  simp only [Act.put, List.getElem_toArray, List.getElem_cons_zero, List.getElem_cons_succ, List.setIfInBounds_toArray, List.set_cons_zero, List.set_cons_succ]
  refine wpG_take (i := 5) (v := ?_) rfl (by kernel_rfl) rfl (by kernel_rfl) (by kernel_rfl) (fun _ _ _ h => h) (by rfl) ?_ (asks_none rfl _) ?_
  rotate_left
  · intro w _; go_simp; rfl
  simp only [Act.put, List.getElem_toArray, List.getElem_cons_zero, List.getElem_cons_succ, List.setIfInBounds_toArray, List.set_cons_zero, List.set_cons_succ]
  refine wpG_take (i := 6) (v := ?_) rfl (by kernel_rfl) rfl (by kernel_rfl) (by kernel_rfl) (fun _ _ _ h => h) (by rfl) ?_ (by simp [asksOf]; exact CW.out.2.1) ?_
  rotate_left
  · intro w hw; simp [asksOf] at hw; go_simp; rfl
  simp only [Act.put, List.getElem_toArray, List.getElem_cons_zero, List.getElem_cons_succ, List.setIfInBounds_toArray, List.set_cons_zero, List.set_cons_succ]
  refine wpG_loud (i := 7) rfl rfl rfl (by kernel_rfl) (fun K hK => ?_)
  go_simp
  refine (envA_divide (E4.out.below (below_drewN (Below.refl _ _) 1)) (by have := G18.out; omega) L0.out L1.out AX.out AY.out (S0.out.drewN 1) (S1.out.drewN 1) ON.out).mono ?_
  rw [HD.out]
  rintro e w5 ⟨Aq, cq, Ar, cr, rfl, hq, hr, -, -, hqx, hrx, hg, he5, hf⟩
  have SQ5 := Lib.hid hq
  have SR5 := Lib.hid hr
  have G5 := Lib.hid (G4.out.trans hg)
  have E5 := Lib.hid he5
  have F5 : Hid (Fr w.heap.size [116, 123] [m] w4 w5) := (F4.out.drewN 1).trans hf
  have CW : Hid (CF bw ow A0 A1 c0 c1 c2 q b3 o3 L w5) := CFH.out w5 F5.out
  clear hq hr hqx hrx hg he5 hf
  refine hK _ _ ?_ ?_
  · intro q hq hwt; simp only [List.mem_cons, List.not_mem_nil, or_false] at hq; rcases hq with rfl | rfl
    · exact CW.out.1
    · exact CW.out.2.1
  clear hK K
  try simp only [Act.put, List.getElem_toArray, List.getElem_cons_zero, List.getElem_cons_succ, List.setIfInBounds_toArray, List.set_cons_zero, List.set_cons_succ]
  refine wpG_take (i := 8) (v := ?_) rfl (by kernel_rfl) rfl (by kernel_rfl) (by kernel_rfl) (fun _ _ _ h => h) (by rfl) ?_ (asks_none rfl _) ?_
  rotate_left
  · intro w _; go_simp; rfl
  simp only [Act.put, List.getElem_toArray, List.getElem_cons_zero, List.getElem_cons_succ, List.setIfInBounds_toArray, List.set_cons_zero, List.set_cons_succ]
  refine wpG_take (i := 9) (v := ?_) rfl (by kernel_rfl) rfl (by kernel_rfl) (by kernel_rfl) (fun _ _ _ h => h) (by rfl) ?_ (asks_none rfl _) ?_
  rotate_left
  · intro w _; go_simp; rfl
  simp only [Act.put, List.getElem_toArray, List.getElem_cons_zero, List.getElem_cons_succ, List.setIfInBounds_toArray, List.set_cons_zero, List.set_cons_succ]
  refine wpG_take (i := 10) (v := ?_) rfl (by kernel_rfl) rfl (by kernel_rfl) (by kernel_rfl) (fun _ _ _ h => h) (by rfl) ?_ (asks_none rfl _) ?_
  rotate_left
  · intro w _; go_simp; rfl
  simp only [Act.put, List.getElem_toArray, List.getElem_cons_zero, List.getElem_cons_succ, List.setIfInBounds_toArray, List.set_cons_zero, List.set_cons_succ]
  refine wpG_take (i := 11) (v := ?_) rfl (by kernel_rfl) rfl (by kernel_rfl) (by kernel_rfl) (fun _ _ _ h => h) (by rfl) ?_ (asks_none rfl _) ?_
  rotate_left
  · intro w _; go_simp; rfl
  simp only [Act.put, List.getElem_toArray, List.getElem_cons_zero, List.getElem_cons_succ, List.setIfInBounds_toArray, List.set_cons_zero, List.set_cons_succ]
  refine wpG_take (i := 12) (v := ?_) rfl (by kernel_rfl) rfl (by kernel_rfl) (by kernel_rfl) (fun _ _ _ h => h) (by rfl) ?_ (asks_none rfl _) ?_
  rotate_left
  · intro w _; go_simp; rfl
  simp only [Act.put, List.getElem_toArray, List.getElem_cons_zero, List.getElem_cons_succ, List.setIfInBounds_toArray, List.set_cons_zero, List.set_cons_succ]
  refine wpG_done (by kernel_rfl) ?_
  go_wp2
  obtain ⟨k1, k2, k3, k4⟩ := KK.out
  refine wp_region_G [4, 8, 17, 22, 31, 36, 45, 50, 70, 73] [(3, fun w' => w'.cell? ⟨bw, ow, none⟩ = some (.slice A0 q c0)), (13, fun w' => w'.cell? ⟨bw, ow, none⟩ = some (.slice A0 q c0)), (16, fun w' => w'.cell? ⟨bw, ow + 1, none⟩ = some (.slice A1 q c1)), (27, fun w' => w'.cell? ⟨bw, ow, none⟩ = some (.slice A0 q c0)), (30, fun w' => w'.cell? ⟨bw, ow + 1, none⟩ = some (.slice A1 q c1)), (41, fun w' => w'.cell? ⟨bw, ow, none⟩ = some (.slice A0 q c0)), (44, fun w' => w'.cell? ⟨bw, ow + 1, none⟩ = some (.slice A1 q c1)), (61, fun w' => w'.cell? ⟨bw, ow + 2, none⟩ = some (.slice (some ⟨b3, o3, none⟩) 1 c2)), (63, fun w' => w'.cell? ⟨b3, o3, none⟩ = some (.int .i64 L)), (66, fun w' => w'.cell? ⟨bw, ow, none⟩ = some (.slice A0 q c0)), (69, fun w' => w'.cell? ⟨bw, ow + 1, none⟩ = some (.slice A1 q c1))] (by kernel_rfl) ?_
  refine wpG_take (i := 0) (v := ?_) rfl (by kernel_rfl) rfl (by kernel_rfl) (by kernel_rfl) (fun _ _ _ h => h) (by rfl) ?_ (asks_none rfl _) ?_
  rotate_left
  · intro w _; go_simp; rfl
  simp only [Act.put, List.getElem_toArray, List.getElem_cons_zero, List.getElem_cons_succ, List.setIfInBounds_toArray, List.set_cons_zero, List.set_cons_succ]
  refine wpG_take (i := 1) (v := ?_) rfl (by kernel_rfl) rfl (by kernel_rfl) (by kernel_rfl) (fun _ _ _ h => h) (by rfl) ?_ (asks_none rfl _) ?_
  rotate_left
  · intro w _; go_simp; rfl
  simp only [Act.put, List.getElem_toArray, List.getElem_cons_zero, List.getElem_cons_succ, List.setIfInBounds_toArray, List.set_cons_zero, List.set_cons_succ]
  refine wpG_take (i := 2) (v := ?_) rfl (by kernel_rfl) rfl (by kernel_rfl) (by kernel_rfl) (fun _ _ _ h => h) (by rfl) ?_ (asks_none rfl _) ?_
  rotate_left
  · intro w _; go_simp; rfl
  simp only [Act.put, List.getElem_toArray, List.getElem_cons_zero, List.getElem_cons_succ, List.setIfInBounds_toArray, List.set_cons_zero, List.set_cons_succ]
  refine wpG_take (i := 3) (v := ?_) rfl (by kernel_rfl) rfl (by kernel_rfl) (by kernel_rfl) (fun _ _ _ h => h) (by rfl) ?_ (by simp [asksOf]; exact CW.out.1) ?_
  rotate_left
  · intro w hw; simp [asksOf] at hw; go_simp; rfl
  simp only [Act.put, List.getElem_toArray, List.getElem_cons_zero, List.getElem_cons_succ, List.setIfInBounds_toArray, List.set_cons_zero, List.set_cons_succ]
  refine wpG_take (i := 5) (v := ?_) rfl (by kernel_rfl) rfl (by kernel_rfl) (by kernel_rfl) (fun _ _ _ h => h) (by rfl) ?_ (asks_none rfl _) ?_
  rotate_left
  · intro w _; go_simp; rfl
  simp only [Act.put, List.getElem_toArray, List.getElem_cons_zero, List.getElem_cons_succ, List.setIfInBounds_toArray, List.set_cons_zero, List.set_cons_succ]
  refine wpG_take (i := 6) (v := ?_) rfl (by kernel_rfl) rfl (by kernel_rfl) (by kernel_rfl) (fun _ _ _ h => h) (by rfl) ?_ (asks_none rfl _) ?_
  rotate_left
  · intro w _; go_simp; rfl
  simp only [Act.put, List.getElem_toArray, List.getElem_cons_zero, List.getElem_cons_succ, List.setIfInBounds_toArray, List.set_cons_zero, List.set_cons_succ]
  refine wpG_take (i := 7) (v := ?_) rfl (by kernel_rfl) rfl (by kernel_rfl) (by kernel_rfl) (fun _ _ _ h => h) (by rfl) ?_ (asks_none rfl _) ?_
  rotate_left
  · intro w _; go_simp; rfl
  simp only [Act.put, List.getElem_toArray, List.getElem_cons_zero, List.getElem_cons_succ, List.setIfInBounds_toArray, List.set_cons_zero, List.set_cons_succ]
  refine wpG_take (i := 10) (v := ?_) rfl (by kernel_rfl) rfl (by kernel_rfl) (by kernel_rfl) (fun _ _ _ h => h) (by rfl) ?_ (asks_none rfl _) ?_
  rotate_left
  · intro w _; go_simp; rfl
  simp only [Act.put, List.getElem_toArray, List.getElem_cons_zero, List.getElem_cons_succ, List.setIfInBounds_toArray, List.set_cons_zero, List.set_cons_succ]
  refine wpG_take (i := 11) (v := ?_) rfl (by kernel_rfl) rfl (by kernel_rfl) (by kernel_rfl) (fun _ _ _ h => h) (by rfl) ?_ (asks_none rfl _) ?_
  rotate_left
  · intro w _; go_simp; rfl
  simp only [Act.put, List.getElem_toArray, List.getElem_cons_zero, List.getElem_cons_succ, List.setIfInBounds_toArray, List.set_cons_zero, List.set_cons_succ]
  refine wpG_take (i := 12) (v := ?_) rfl (by kernel_rfl) rfl (by kernel_rfl) (by kernel_rfl) (fun _ _ _ h => h) (by rfl) ?_ (asks_none rfl _) ?_
  rotate_left
  · intro w _; go_simp; rfl
  simp only [Act.put, List.getElem_toArray, List.getElem_cons_zero, List.getElem_cons_succ, List.setIfInBounds_toArray, List.set_cons_zero, List.set_cons_succ]
  refine wpG_take (i := 13) (v := ?_) rfl (by kernel_rfl) rfl (by kernel_rfl) (by kernel_rfl) (fun _ _ _ h => h) (by rfl) ?_ (by simp [asksOf]; exact CW.out.1) ?_
  rotate_left
  · intro w hw; simp [asksOf] at hw; go_simp; rfl
  simp only [Act.put, List.getElem_toArray, List.getElem_cons_zero, List.getElem_cons_succ, List.setIfInBounds_toArray, List.set_cons_zero, List.set_cons_succ]
  refine wpG_take (i := 14) (v := ?_) rfl (by kernel_rfl) rfl (by kernel_rfl) (by kernel_rfl) (fun _ _ _ h => h) (by rfl) ?_ (asks_none rfl _) ?_
  rotate_left
  · intro w _; go_simp; rfl
  simp only [Act.put, List.getElem_toArray, List.getElem_cons_zero, List.getElem_cons_succ, List.setIfInBounds_toArray, List.set_cons_zero, List.set_cons_succ]
  refine wpG_take (i := 15) (v := ?_) rfl (by kernel_rfl) rfl (by kernel_rfl) (by kernel_rfl) (fun _ _ _ h => h) (by rfl) ?_ (asks_none rfl _) ?_
  rotate_left
  · intro w _; go_simp; rfl
  simp only [Act.put, List.getElem_toArray, List.getElem_cons_zero, List.getElem_cons_succ, List.setIfInBounds_toArray, List.set_cons_zero, List.set_cons_succ]
  refine wpG_take (i := 16) (v := ?_) rfl (by kernel_rfl) rfl (by kernel_rfl) (by kernel_rfl) (fun _ _ _ h => h) (by rfl) ?_ (by simp [asksOf]; exact CW.out.2.1) ?_
  rotate_left
  · intro w hw; simp [asksOf] at hw; go_simp; rfl
  simp only [Act.put, List.getElem_toArray, List.getElem_cons_zero, List.getElem_cons_succ, List.setIfInBounds_toArray, List.set_cons_zero, List.set_cons_succ]
  refine wpG_take (i := 18) (v := ?_) rfl (by kernel_rfl) rfl (by kernel_rfl) (by kernel_rfl) (fun _ _ _ h => h) (by rfl) ?_ (asks_none rfl _) ?_
  rotate_left
  · intro w _; go_simp; rfl
  simp only [Act.put, List.getElem_toArray, List.getElem_cons_zero, List.getElem_cons_succ, List.setIfInBounds_toArray, List.set_cons_zero, List.set_cons_succ]
  refine wpG_take (i := 19) (v := ?_) rfl (by kernel_rfl) rfl (by kernel_rfl) (by kernel_rfl) (fun _ _ _ h => h) (by rfl) ?_ (asks_none rfl _) ?_
  rotate_left
  · intro w _; go_simp; rfl
  simp only [Act.put, List.getElem_toArray, List.getElem_cons_zero, List.getElem_cons_succ, List.setIfInBounds_toArray, List.set_cons_zero, List.set_cons_succ]
  refine wpG_take (i := 20) (v := ?_) rfl (by kernel_rfl) rfl (by kernel_rfl) (by kernel_rfl) (fun _ _ _ h => h) (by rfl) ?_ (asks_none rfl _) ?_
  rotate_left
  · intro w _; go_simp; rfl
  simp only [Act.put, List.getElem_toArray, List.getElem_cons_zero, List.getElem_cons_succ, List.setIfInBounds_toArray, List.set_cons_zero, List.set_cons_succ]
  refine wpG_take (i := 21) (v := ?_) rfl (by kernel_rfl) rfl (by kernel_rfl) (by kernel_rfl) (fun _ _ _ h => h) (by rfl) ?_ (asks_none rfl _) ?_
  rotate_left
  · intro w _; go_simp; rfl
  simp only [Act.put, List.getElem_toArray, List.getElem_cons_zero, List.getElem_cons_succ, List.setIfInBounds_toArray, List.set_cons_zero, List.set_cons_succ]
  refine wpG_take (i := 24) (v := ?_) rfl (by kernel_rfl) rfl (by kernel_rfl) (by kernel_rfl) (fun _ _ _ h => h) (by rfl) ?_ (asks_none rfl _) ?_
  rotate_left
  · intro w _; go_simp; rfl
  simp only [Act.put, List.getElem_toArray, List.getElem_cons_zero, List.getElem_cons_succ, List.setIfInBounds_toArray, List.set_cons_zero, List.set_cons_succ]
  refine wpG_take (i := 25) (v := ?_) rfl (by kernel_rfl) rfl (by kernel_rfl) (by kernel_rfl) (fun _ _ _ h => h) (by rfl) ?_ (asks_none rfl _) ?_
  rotate_left
  · intro w _; go_simp; rfl
  simp only [Act.put, List.getElem_toArray, List.getElem_cons_zero, List.getElem_cons_succ, List.setIfInBounds_toArray, List.set_cons_zero, List.set_cons_succ]
  refine wpG_take (i := 26) (v := ?_) rfl (by kernel_rfl) rfl (by kernel_rfl) (by kernel_rfl) (fun _ _ _ h => h) (by rfl) ?_ (asks_none rfl _) ?_
  rotate_left
  · intro w _; go_simp; rfl
  simp only [Act.put, List.getElem_toArray, List.getElem_cons_zero, List.getElem_cons_succ, List.setIfInBounds_toArray, List.set_cons_zero, List.set_cons_succ]
  refine wpG_take (i := 27) (v := ?_) rfl (by kernel_rfl) rfl (by kernel_rfl) (by kernel_rfl) (fun _ _ _ h => h) (by rfl) ?_ (by simp [asksOf]; exact CW.out.1) ?_
  rotate_left
  · intro w hw; simp [asksOf] at hw; go_simp; rfl
  simp only [Act.put, List.getElem_toArray, List.getElem_cons_zero, List.getElem_cons_succ, List.setIfInBounds_toArray, List.set_cons_zero, List.set_cons_succ]
  refine wpG_take (i := 28) (v := ?_) rfl (by kernel_rfl) rfl (by kernel_rfl) (by kernel_rfl) (fun _ _ _ h => h) (by rfl) ?_ (asks_none rfl _) ?_
  rotate_left
  · intro w _; go_simp; rfl
  simp only [Act.put, List.getElem_toArray, List.getElem_cons_zero, List.getElem_cons_succ, List.setIfInBounds_toArray, List.set_cons_zero, List.set_cons_succ]
  refine wpG_take (i := 29) (v := ?_) rfl (by kernel_rfl) rfl (by kernel_rfl) (by kernel_rfl) (fun _ _ _ h => h) (by rfl) ?_ (asks_none rfl _) ?_
  rotate_left
  · intro w _; go_simp; rfl
  simp only [Act.put, List.getElem_toArray, List.getElem_cons_zero, List.getElem_cons_succ, List.setIfInBounds_toArray, List.set_cons_zero, List.set_cons_succ]
  refine wpG_take (i := 30) (v := ?_) rfl (by kernel_rfl) rfl (by kernel_rfl) (by kernel_rfl) (fun _ _ _ h => h) (by rfl) ?_ (by simp [asksOf]; exact CW.out.2.1) ?_
  rotate_left
  · intro w hw; simp [asksOf] at hw; go_simp; rfl
  simp only [Act.put, List.getElem_toArray, List.getElem_cons_zero, List.getElem_cons_succ, List.setIfInBounds_toArray, List.set_cons_zero, List.set_cons_succ]
  refine wpG_take (i := 32) (v := ?_) rfl (by kernel_rfl) rfl (by kernel_rfl) (by kernel_rfl) (fun _ _ _ h => h) (by rfl) ?_ (asks_none rfl _) ?_
  rotate_left
  · intro w _; go_simp; rfl
  simp only [Act.put, List.getElem_toArray, List.getElem_cons_zero, List.getElem_cons_succ, List.setIfInBounds_toArray, List.set_cons_zero, List.set_cons_succ]
  refine wpG_take (i := 33) (v := ?_) rfl (by kernel_rfl) rfl (by kernel_rfl) (by kernel_rfl) (fun _ _ _ h => h) (by rfl) ?_ (asks_none rfl _) ?_
  rotate_left
  · intro w _; go_simp; rfl
  simp only [Act.put, List.getElem_toArray, List.getElem_cons_zero, List.getElem_cons_succ, List.setIfInBounds_toArray, List.set_cons_zero, List.set_cons_succ]
  refine wpG_take (i := 34) (v := ?_) rfl (by kernel_rfl) rfl (by kernel_rfl) (by kernel_rfl) (fun _ _ _ h => h) (by rfl) ?_ (asks_none rfl _) ?_
  rotate_left
  · intro w _; go_simp; rfl
  simp only [Act.put, List.getElem_toArray, List.getElem_cons_zero, List.getElem_cons_succ, List.setIfInBounds_toArray, List.set_cons_zero, List.set_cons_succ]
  refine wpG_take (i := 35) (v := ?_) rfl (by kernel_rfl) rfl (by kernel_rfl) (by kernel_rfl) (fun _ _ _ h => h) (by rfl) ?_ (asks_none rfl _) ?_
  rotate_left
  · intro w _; go_simp; rfl
  simp only [Act.put, List.getElem_toArray, List.getElem_cons_zero, List.getElem_cons_succ, List.setIfInBounds_toArray, List.set_cons_zero, List.set_cons_succ]
  refine wpG_take (i := 38) (v := ?_) rfl (by kernel_rfl) rfl (by kernel_rfl) (by kernel_rfl) (fun _ _ _ h => h) (by rfl) ?_ (asks_none rfl _) ?_
  rotate_left
  · intro w _; go_simp; rfl
  simp only [Act.put, List.getElem_toArray, List.getElem_cons_zero, List.getElem_cons_succ, List.setIfInBounds_toArray, List.set_cons_zero, List.set_cons_succ]
  refine wpG_take (i := 39) (v := ?_) rfl (by kernel_rfl) rfl (by kernel_rfl) (by kernel_rfl) (fun _ _ _ h => h) (by rfl) ?_ (asks_none rfl _) ?_
  rotate_left
  · intro w _; go_simp; rfl
  simp only [Act.put, List.getElem_toArray, List.getElem_cons_zero, List.getElem_cons_succ, List.setIfInBounds_toArray, List.set_cons_zero, List.set_cons_succ]
  refine wpG_take (i := 40) (v := ?_) rfl (by kernel_rfl) rfl (by kernel_rfl) (by kernel_rfl) (fun _ _ _ h => h) (by rfl) ?_ (asks_none rfl _) ?_
  rotate_left
  · intro w _; go_simp; rfl
  simp only [Act.put, List.getElem_toArray, List.getElem_cons_zero, List.getElem_cons_succ, List.setIfInBounds_toArray, List.set_cons_zero, List.set_cons_succ]
  refine wpG_take (i := 41) (v := ?_) rfl (by kernel_rfl) rfl (by kernel_rfl) (by kernel_rfl) (fun _ _ _ h => h) (by rfl) ?_ (by simp [asksOf]; exact CW.out.1) ?_
  rotate_left
  · intro w hw; simp [asksOf] at hw; go_simp; rfl
  simp only [Act.put, List.getElem_toArray, List.getElem_cons_zero, List.getElem_cons_succ, List.setIfInBounds_toArray, List.set_cons_zero, List.set_cons_succ]
  refine wpG_take (i := 42) (v := ?_) rfl (by kernel_rfl) rfl (by kernel_rfl) (by kernel_rfl) (fun _ _ _ h => h) (by rfl) ?_ (asks_none rfl _) ?_
  rotate_left
  · intro w _; go_simp; rfl
  simp only [Act.put, List.getElem_toArray, List.getElem_cons_zero, List.getElem_cons_succ, List.setIfInBounds_toArray, List.set_cons_zero, List.set_cons_succ]
  refine wpG_take (i := 43) (v := ?_) rfl (by kernel_rfl) rfl (by kernel_rfl) (by kernel_rfl) (fun _ _ _ h => h) (by rfl) ?_ (asks_none rfl _) ?_
  rotate_left
  · intro w _; go_simp; rfl
  simp only [Act.put, List.getElem_toArray, List.getElem_cons_zero, List.getElem_cons_succ, List.setIfInBounds_toArray, List.set_cons_zero, List.set_cons_succ]
  refine wpG_take (i := 44) (v := ?_) rfl (by kernel_rfl) rfl (by kernel_rfl) (by kernel_rfl) (fun _ _ _ h => h) (by rfl) ?_ (by simp [asksOf]; exact CW.out.2.1) ?_
  rotate_left
  · intro w hw; simp [asksOf] at hw; go_simp; rfl
  simp only [Act.put, List.getElem_toArray, List.getElem_cons_zero, List.getElem_cons_succ, List.setIfInBounds_toArray, List.set_cons_zero, List.set_cons_succ]
  refine wpG_take (i := 46) (v := ?_) rfl (by kernel_rfl) rfl (by kernel_rfl) (by kernel_rfl) (fun _ _ _ h => h) (by rfl) ?_ (asks_none rfl _) ?_
  rotate_left
  · intro w _; go_simp; rfl
  simp only [Act.put, List.getElem_toArray, List.getElem_cons_zero, List.getElem_cons_succ, List.setIfInBounds_toArray, List.set_cons_zero, List.set_cons_succ]
  refine wpG_take (i := 47) (v := ?_) rfl (by kernel_rfl) rfl (by kernel_rfl) (by kernel_rfl) (fun _ _ _ h => h) (by rfl) ?_ (asks_none rfl _) ?_
  rotate_left
  · intro w _; go_simp; rfl
  simp only [Act.put, List.getElem_toArray, List.getElem_cons_zero, List.getElem_cons_succ, List.setIfInBounds_toArray, List.set_cons_zero, List.set_cons_succ]
  refine wpG_take (i := 48) (v := ?_) rfl (by kernel_rfl) rfl (by kernel_rfl) (by kernel_rfl) (fun _ _ _ h => h) (by rfl) ?_ (asks_none rfl _) ?_
  rotate_left
  · intro w _; go_simp; rfl
  simp only [Act.put, List.getElem_toArray, List.getElem_cons_zero, List.getElem_cons_succ, List.setIfInBounds_toArray, List.set_cons_zero, List.set_cons_succ]
  refine wpG_take (i := 49) (v := ?_) rfl (by kernel_rfl) rfl (by kernel_rfl) (by kernel_rfl) (fun _ _ _ h => h) (by rfl) ?_ (asks_none rfl _) ?_
  rotate_left
  · intro w _; go_simp; rfl
  simp only [Act.put, List.getElem_toArray, List.getElem_cons_zero, List.getElem_cons_succ, List.setIfInBounds_toArray, List.set_cons_zero, List.set_cons_succ]
  refine wpG_take (i := 52) (v := ?_) rfl (by kernel_rfl) rfl (by kernel_rfl) (by kernel_rfl) (fun _ _ _ h => h) (by rfl) ?_ (asks_none rfl _) ?_
  rotate_left
  · intro w _; go_simp; rfl
  simp only [Act.put, List.getElem_toArray, List.getElem_cons_zero, List.getElem_cons_succ, List.setIfInBounds_toArray, List.set_cons_zero, List.set_cons_succ]
  refine wpG_take (i := 53) (v := ?_) rfl (by kernel_rfl) rfl (by kernel_rfl) (by kernel_rfl) (fun _ _ _ h => h) (by rfl) ?_ (asks_none rfl _) ?_
  rotate_left
  · intro w _; go_simp; rfl
  simp only [Act.put, List.getElem_toArray, List.getElem_cons_zero, List.getElem_cons_succ, List.setIfInBounds_toArray, List.set_cons_zero, List.set_cons_succ]
  refine wpG_take (i := 54) (v := ?_) rfl (by kernel_rfl) rfl (by kernel_rfl) (by kernel_rfl) (fun _ _ _ h => h) (by rfl) ?_ (asks_none rfl _) ?_
  rotate_left
  · intro w _; go_simp; rfl
  simp only [Act.put, List.getElem_toArray, List.getElem_cons_zero, List.getElem_cons_succ, List.setIfInBounds_toArray, List.set_cons_zero, List.set_cons_succ]
  refine wpG_take (i := 55) (v := ?_) rfl (by kernel_rfl) rfl (by kernel_rfl) (by kernel_rfl) (fun _ _ _ h => h) (by rfl) ?_ (asks_none rfl _) ?_
  rotate_left
  · intro w _; go_simp; rfl
  simp only [Act.put, List.getElem_toArray, List.getElem_cons_zero, List.getElem_cons_succ, List.setIfInBounds_toArray, List.set_cons_zero, List.set_cons_succ]
  refine wpG_take (i := 56) (v := ?_) rfl (by kernel_rfl) rfl (by kernel_rfl) (by kernel_rfl) (fun _ _ _ h => h) (by rfl) ?_ (asks_none rfl _) ?_
  rotate_left
  · intro w _; go_simp; rfl
  simp only [Act.put, List.getElem_toArray, List.getElem_cons_zero, List.getElem_cons_succ, List.setIfInBounds_toArray, List.set_cons_zero, List.set_cons_succ]
  refine wpG_take (i := 57) (v := ?_) rfl (by kernel_rfl) rfl (by kernel_rfl) (by kernel_rfl) (fun _ _ _ h => h) (by rfl) ?_ (asks_none rfl _) ?_
  rotate_left
  · intro w _; go_simp; rfl
  simp only [Act.put, List.getElem_toArray, List.getElem_cons_zero, List.getElem_cons_succ, List.setIfInBounds_toArray, List.set_cons_zero, List.set_cons_succ]
  refine wpG_take (i := 58) (v := ?_) rfl (by kernel_rfl) rfl (by kernel_rfl) (by kernel_rfl) (fun _ _ _ h => h) (by rfl) ?_ (asks_none rfl _) ?_
  rotate_left
  · intro w _; go_simp; rfl
  simp only [Act.put, List.getElem_toArray, List.getElem_cons_zero, List.getElem_cons_succ, List.setIfInBounds_toArray, List.set_cons_zero, List.set_cons_succ]
  refine wpG_take (i := 59) (v := ?_) rfl (by kernel_rfl) rfl (by kernel_rfl) (by kernel_rfl) (fun _ _ _ h => h) (by rfl) ?_ (asks_none rfl _) ?_
  rotate_left
  · intro w _; go_simp; rfl
  simp only [Act.put, List.getElem_toArray, List.getElem_cons_zero, List.getElem_cons_succ, List.setIfInBounds_toArray, List.set_cons_zero, List.set_cons_succ]
  refine wpG_take (i := 60) (v := ?_) rfl (by kernel_rfl) rfl (by kernel_rfl) (by kernel_rfl) (fun _ _ _ h => h) (by rfl) ?_ (asks_none rfl _) ?_
  rotate_left
  · intro w _; go_simp; rfl
  simp only [Act.put, List.getElem_toArray, List.getElem_cons_zero, List.getElem_cons_succ, List.setIfInBounds_toArray, List.set_cons_zero, List.set_cons_succ]
  refine wpG_take (i := 61) (v := ?_) rfl (by kernel_rfl) rfl (by kernel_rfl) (by kernel_rfl) (fun _ _ _ h => h) (by rfl) ?_ (by simp [asksOf]; exact CW.out.2.2.1) ?_
  rotate_left
  · intro w hw; simp [asksOf] at hw; go_simp; rfl
  simp only [Act.put, List.getElem_toArray, List.getElem_cons_zero, List.getElem_cons_succ, List.setIfInBounds_toArray, List.set_cons_zero, List.set_cons_succ]
  refine wpG_take (i := 62) (v := ?_) rfl (by kernel_rfl) rfl (by kernel_rfl) (by kernel_rfl) (fun _ _ _ h => h) (by rfl) ?_ (asks_none rfl _) ?_
  rotate_left
  · intro w _; go_simp; rfl
  simp only [Act.put, List.getElem_toArray, List.getElem_cons_zero, List.getElem_cons_succ, List.setIfInBounds_toArray, List.set_cons_zero, List.set_cons_succ]
  refine wpG_take (i := 63) (v := ?_) rfl (by kernel_rfl) rfl (by kernel_rfl) (by kernel_rfl) (fun _ _ _ h => h) (by rfl) ?_ (by simp [asksOf]; exact CW.out.2.2.2) ?_
  rotate_left
  · intro w hw; simp [asksOf] at hw; go_simp; rfl
  simp only [Act.put, List.getElem_toArray, List.getElem_cons_zero, List.getElem_cons_succ, List.setIfInBounds_toArray, List.set_cons_zero, List.set_cons_succ]
  refine wpG_take (i := 64) (v := ?_) rfl (by kernel_rfl) rfl (by kernel_rfl) (by kernel_rfl) (fun _ _ _ h => h) (by rfl) ?_ (asks_none rfl _) ?_
  rotate_left
  · intro w _; go_simp; rfl
  simp only [Act.put, List.getElem_toArray, List.getElem_cons_zero, List.getElem_cons_succ, List.setIfInBounds_toArray, List.set_cons_zero, List.set_cons_succ]
  refine wpG_take (i := 65) (v := ?_) rfl (by kernel_rfl) rfl (by kernel_rfl) (by kernel_rfl) (fun _ _ _ h => h) (by rfl) ?_ (asks_none rfl _) ?_
  rotate_left
  · intro w _; go_simp; rfl
  simp only [Act.put, List.getElem_toArray, List.getElem_cons_zero, List.getElem_cons_succ, List.setIfInBounds_toArray, List.set_cons_zero, List.set_cons_succ]
  refine wpG_take (i := 66) (v := ?_) rfl (by kernel_rfl) rfl (by kernel_rfl) (by kernel_rfl) (fun _ _ _ h => h) (by rfl) ?_ (by simp [asksOf]; exact CW.out.1) ?_
  rotate_left
  · intro w hw; simp [asksOf] at hw; go_simp; rfl
  simp only [Act.put, List.getElem_toArray, List.getElem_cons_zero, List.getElem_cons_succ, List.setIfInBounds_toArray, List.set_cons_zero, List.set_cons_succ]
  refine wpG_take (i := 67) (v := ?_) rfl (by kernel_rfl) rfl (by kernel_rfl) (by kernel_rfl) (fun _ _ _ h => h) (by rfl) ?_ (asks_none rfl _) ?_
  rotate_left
  · intro w _; go_simp; rfl
  simp only [Act.put, List.getElem_toArray, List.getElem_cons_zero, List.getElem_cons_succ, List.setIfInBounds_toArray, List.set_cons_zero, List.set_cons_succ]
  refine wpG_take (i := 68) (v := ?_) rfl (by kernel_rfl) rfl (by kernel_rfl) (by kernel_rfl) (fun _ _ _ h => h) (by rfl) ?_ (asks_none rfl _) ?_
  rotate_left
  · intro w _; go_simp; rfl
  simp only [Act.put, List.getElem_toArray, List.getElem_cons_zero, List.getElem_cons_succ, List.setIfInBounds_toArray, List.set_cons_zero, List.set_cons_succ]
  refine wpG_take (i := 69) (v := ?_) rfl (by kernel_rfl) rfl (by kernel_rfl) (by kernel_rfl) (fun _ _ _ h => h) (by rfl) ?_ (by simp [asksOf]; exact CW.out.2.1) ?_
  rotate_left
  · intro w hw; simp [asksOf] at hw; go_simp; rfl
  simp only [Act.put, List.getElem_toArray, List.getElem_cons_zero, List.getElem_cons_succ, List.setIfInBounds_toArray, List.set_cons_zero, List.set_cons_succ]
  refine wpG_take (i := 71) (v := ?_) rfl (by kernel_rfl) rfl (by kernel_rfl) (by kernel_rfl) (fun _ _ _ h => h) (by rfl) ?_ (asks_none rfl _) ?_
  rotate_left
  · intro w _; go_simp; rfl
  simp only [Act.put, List.getElem_toArray, List.getElem_cons_zero, List.getElem_cons_succ, List.setIfInBounds_toArray, List.set_cons_zero, List.set_cons_succ]
  refine wpG_take (i := 75) (oi := ⟨some 176, _, _, _, _, _⟩) (v := ?_) rfl (by kernel_rfl) rfl (by kernel_rfl) (by kernel_rfl) (fun _ _ _ h => h) (by rfl) ?_ (asks_none rfl _) ?_
  rotate_left
  · intro w _; go_simp; rfl
  simp only [Act.put, List.getElem_toArray, List.getElem_cons_zero, List.getElem_cons_succ, List.setIfInBounds_toArray, List.set_cons_zero, List.set_cons_succ]
  refine wpG_loud (i := 4) rfl rfl rfl (by kernel_rfl) (fun K hK => ?_)
  go_simp
  refine (envA_neg (E5.out.below (below_drewN (Below.refl _ _) 1)) (by have := G18.out; omega) L0.out ON1.out (G5.out.lits AX.out) (S0.out.fr (F5.out.drewN 1) (by decide))).mono ?_
  rw [HNG.out]
  rintro e w6 ⟨A6, cc6, rfl, -, hs, -, hx, hg, he5, hf⟩
  have SN6 := Lib.hid hs
  have SQ6 := Lib.hid ((SQ5.out.drewN 1).fr hf (by decide))
  have SR6 := Lib.hid ((SR5.out.drewN 1).fr hf (by decide))
  have G6 := Lib.hid (G5.out.trans hg)
  have E6 := Lib.hid he5
  have F6 : Hid (Fr w.heap.size [116, 123] [m] w4 w6) := (F5.out.drewN 1).trans hf
  have CW : Hid (CF bw ow A0 A1 c0 c1 c2 q b3 o3 L w6) := CFH.out w6 F6.out
  clear hs hx hg he5 hf
  refine hK _ _ ?_ ?_
  · intro q hq hwt; simp only [List.mem_cons, List.not_mem_nil, or_false] at hq; rcases hq with rfl | rfl | rfl | rfl | rfl | rfl | rfl | rfl | rfl | rfl | rfl
    · exact CW.out.1
    · exact CW.out.1
    · exact CW.out.2.1
    · exact CW.out.1
    · exact CW.out.2.1
    · exact CW.out.1
    · exact CW.out.2.1
    · exact CW.out.2.2.1
    · exact CW.out.2.2.2
    · exact CW.out.1
    · exact CW.out.2.1
  clear hK K
  try simp only [Act.put, List.getElem_toArray, List.getElem_cons_zero, List.getElem_cons_succ, List.setIfInBounds_toArray, List.set_cons_zero, List.set_cons_succ]
  refine wpG_loud (i := 8) rfl rfl rfl (by kernel_rfl) (fun K hK => ?_)
  go_simp
  refine (wrap_any _ _ _).mono ?_
  rw [V1.out]
  rintro e w_ ⟨rfl, rfl⟩
  refine hK _ _ ?_ ?_
  · intro q hq hwt; simp only [List.mem_cons, List.not_mem_nil, or_false] at hq; rcases hq with rfl | rfl | rfl | rfl | rfl | rfl | rfl | rfl | rfl | rfl | rfl
    · exact CW.out.1
    · exact CW.out.1
    · exact CW.out.2.1
    · exact CW.out.1
    · exact CW.out.2.1
    · exact CW.out.1
    · exact CW.out.2.1
    · exact CW.out.2.2.1
    · exact CW.out.2.2.2
    · exact CW.out.1
    · exact CW.out.2.1
  clear hK K
  try simp only [Act.put, List.getElem_toArray, List.getElem_cons_zero, List.getElem_cons_succ, List.setIfInBounds_toArray, List.set_cons_zero, List.set_cons_succ]
  refine wpG_take (i := 9) (v := ?_) rfl (by kernel_rfl) rfl (by kernel_rfl) (by kernel_rfl) (fun _ _ _ h => h) (by rfl) ?_ (asks_none rfl _) ?_
  rotate_left
  · intro w _; go_simp; rfl
  simp only [Act.put, List.getElem_toArray, List.getElem_cons_zero, List.getElem_cons_succ, List.setIfInBounds_toArray, List.set_cons_zero, List.set_cons_succ]
  refine wpG_loud (i := 17) rfl rfl rfl (by kernel_rfl) (fun K hK => ?_)
  go_simp
  refine (envA_add E6.out (by have := G18.out; omega) L0.out L1.out (G6.out.lits AX.out) (G6.out.lits AY.out) (S0.out.fr F6.out (by decide)) (S1.out.fr F6.out (by decide)) ON.out).mono ?_
  rw [HS.out]
  rintro e w7 ⟨A7, cc7, rfl, -, hs, -, hx, hg, he5, hf⟩
  have SS7 := Lib.hid hs
  have SQ7 := Lib.hid ((SQ6.out).fr hf (by decide))
  have SR7 := Lib.hid ((SR6.out).fr hf (by decide))
  have SN7 := Lib.hid ((SN6.out).fr hf (by decide))
  have G7 := Lib.hid (G6.out.trans hg)
  have E7 := Lib.hid he5
  have F7 : Hid (Fr w.heap.size [116, 123] [m] w4 w7) := F6.out.trans hf
  have CW : Hid (CF bw ow A0 A1 c0 c1 c2 q b3 o3 L w7) := CFH.out w7 F7.out
  clear hs hx hg he5 hf
  refine hK _ _ ?_ ?_
  · intro q hq hwt; simp only [List.mem_cons, List.not_mem_nil, or_false] at hq; rcases hq with rfl | rfl | rfl | rfl | rfl | rfl | rfl | rfl | rfl | rfl | rfl
    · exact CW.out.1
    · exact CW.out.1
    · exact CW.out.2.1
    · exact CW.out.1
    · exact CW.out.2.1
    · exact CW.out.1
    · exact CW.out.2.1
    · exact CW.out.2.2.1
    · exact CW.out.2.2.2
    · exact CW.out.1
    · exact CW.out.2.1
  clear hK K
  try simp only [Act.put, List.getElem_toArray, List.getElem_cons_zero, List.getElem_cons_succ, List.setIfInBounds_toArray, List.set_cons_zero, List.set_cons_succ]
  refine wpG_loud (i := 22) rfl rfl rfl (by kernel_rfl) (fun K hK => ?_)
  go_simp
  refine (wrap_any _ _ _).mono ?_
  rw [V2.out]
  rintro e w_ ⟨rfl, rfl⟩
  refine hK _ _ ?_ ?_
  · intro q hq hwt; simp only [List.mem_cons, List.not_mem_nil, or_false] at hq; rcases hq with rfl | rfl | rfl | rfl | rfl | rfl | rfl | rfl | rfl | rfl | rfl
    · exact CW.out.1
    · exact CW.out.1
    · exact CW.out.2.1
    · exact CW.out.1
    · exact CW.out.2.1
    · exact CW.out.1
    · exact CW.out.2.1
    · exact CW.out.2.2.1
    · exact CW.out.2.2.2
    · exact CW.out.1
    · exact CW.out.2.1
  clear hK K
  try simp only [Act.put, List.getElem_toArray, List.getElem_cons_zero, List.getElem_cons_succ, List.setIfInBounds_toArray, List.set_cons_zero, List.set_cons_succ]
  refine wpG_take (i := 23) (v := ?_) rfl (by kernel_rfl) rfl (by kernel_rfl) (by kernel_rfl) (fun _ _ _ h => h) (by rfl) ?_ (asks_none rfl _) ?_
  rotate_left
  · intro w _; go_simp; rfl
  simp only [Act.put, List.getElem_toArray, List.getElem_cons_zero, List.getElem_cons_succ, List.setIfInBounds_toArray, List.set_cons_zero, List.set_cons_succ]
  refine wpG_loud (i := 31) rfl rfl rfl (by kernel_rfl) (fun K hK => ?_)
  go_simp
  refine (envA_sub E7.out (by have := G18.out; omega) L0.out L1.out (G7.out.lits AX.out) (G7.out.lits AY.out) (S0.out.fr F7.out (by decide)) (S1.out.fr F7.out (by decide)) ON.out).mono ?_
  rw [HB.out]
  rintro e w8 ⟨A8, cc8, rfl, -, hs, -, hx, hg, he5, hf⟩
  have SB8 := Lib.hid hs
  have SQ8 := Lib.hid ((SQ7.out).fr hf (by decide))
  have SR8 := Lib.hid ((SR7.out).fr hf (by decide))
  have SN8 := Lib.hid ((SN7.out).fr hf (by decide))
  have SS8 := Lib.hid ((SS7.out).fr hf (by decide))
  have G8 := Lib.hid (G7.out.trans hg)
  have E8 := Lib.hid he5
  have F8 : Hid (Fr w.heap.size [116, 123] [m] w4 w8) := F7.out.trans hf
  have CW : Hid (CF bw ow A0 A1 c0 c1 c2 q b3 o3 L w8) := CFH.out w8 F8.out
  clear hs hx hg he5 hf
  refine hK _ _ ?_ ?_
  · intro q hq hwt; simp only [List.mem_cons, List.not_mem_nil, or_false] at hq; rcases hq with rfl | rfl | rfl | rfl | rfl | rfl | rfl | rfl | rfl | rfl | rfl
    · exact CW.out.1
    · exact CW.out.1
    · exact CW.out.2.1
    · exact CW.out.1
    · exact CW.out.2.1
    · exact CW.out.1
    · exact CW.out.2.1
    · exact CW.out.2.2.1
    · exact CW.out.2.2.2
    · exact CW.out.1
    · exact CW.out.2.1
  clear hK K
  try simp only [Act.put, List.getElem_toArray, List.getElem_cons_zero, List.getElem_cons_succ, List.setIfInBounds_toArray, List.set_cons_zero, List.set_cons_succ]
  refine wpG_loud (i := 36) rfl rfl rfl (by kernel_rfl) (fun K hK => ?_)
  go_simp
  refine (wrap_any _ _ _).mono ?_
  rw [V3.out]
  rintro e w_ ⟨rfl, rfl⟩
  refine hK _ _ ?_ ?_
  · intro q hq hwt; simp only [List.mem_cons, List.not_mem_nil, or_false] at hq; rcases hq with rfl | rfl | rfl | rfl | rfl | rfl | rfl | rfl | rfl | rfl | rfl
    · exact CW.out.1
    · exact CW.out.1
    · exact CW.out.2.1
    · exact CW.out.1
    · exact CW.out.2.1
    · exact CW.out.1
    · exact CW.out.2.1
    · exact CW.out.2.2.1
    · exact CW.out.2.2.2
    · exact CW.out.1
    · exact CW.out.2.1
  clear hK K
  try simp only [Act.put, List.getElem_toArray, List.getElem_cons_zero, List.getElem_cons_succ, List.setIfInBounds_toArray, List.set_cons_zero, List.set_cons_succ]
  refine wpG_take (i := 37) (v := ?_) rfl (by kernel_rfl) rfl (by kernel_rfl) (by kernel_rfl) (fun _ _ _ h => h) (by rfl) ?_ (asks_none rfl _) ?_
  rotate_left
  · intro w _; go_simp; rfl
  simp only [Act.put, List.getElem_toArray, List.getElem_cons_zero, List.getElem_cons_succ, List.setIfInBounds_toArray, List.set_cons_zero, List.set_cons_succ]
  refine wpG_loud (i := 45) rfl rfl rfl (by kernel_rfl) (fun K hK => ?_)
  go_simp
  refine (envA_mul E8.out (by have := G18.out; omega) L0.out L1.out (G8.out.lits AX.out) (G8.out.lits AY.out) (S0.out.fr F8.out (by decide)) (S1.out.fr F8.out (by decide)) ON.out).mono ?_
  rw [HM.out]
  rintro e w9 ⟨A9, cc9, rfl, -, hs, -, hx, hg, he5, hf⟩
  have SM9 := Lib.hid hs
  have SQ9 := Lib.hid ((SQ8.out).fr hf (by decide))
  have SR9 := Lib.hid ((SR8.out).fr hf (by decide))
  have SN9 := Lib.hid ((SN8.out).fr hf (by decide))
  have SS9 := Lib.hid ((SS8.out).fr hf (by decide))
  have SB9 := Lib.hid ((SB8.out).fr hf (by decide))
  have G9 := Lib.hid (G8.out.trans hg)
  have E9 := Lib.hid he5
  have F9 : Hid (Fr w.heap.size [116, 123] [m] w4 w9) := F8.out.trans hf
  have CW : Hid (CF bw ow A0 A1 c0 c1 c2 q b3 o3 L w9) := CFH.out w9 F9.out
  clear hs hx hg he5 hf
  refine hK _ _ ?_ ?_
  · intro q hq hwt; simp only [List.mem_cons, List.not_mem_nil, or_false] at hq; rcases hq with rfl | rfl | rfl | rfl | rfl | rfl | rfl | rfl | rfl | rfl | rfl
    · exact CW.out.1
    · exact CW.out.1
    · exact CW.out.2.1
    · exact CW.out.1
    · exact CW.out.2.1
    · exact CW.out.1
    · exact CW.out.2.1
    · exact CW.out.2.2.1
    · exact CW.out.2.2.2
    · exact CW.out.1
    · exact CW.out.2.1
  clear hK K
  try simp only [Act.put, List.getElem_toArray, List.getElem_cons_zero, List.getElem_cons_succ, List.setIfInBounds_toArray, List.set_cons_zero, List.set_cons_succ]
  refine wpG_loud (i := 50) rfl rfl rfl (by kernel_rfl) (fun K hK => ?_)
  go_simp
  refine (wrap_any _ _ _).mono ?_
  rw [V4.out]
  rintro e w_ ⟨rfl, rfl⟩
  refine hK _ _ ?_ ?_
  · intro q hq hwt; simp only [List.mem_cons, List.not_mem_nil, or_false] at hq; rcases hq with rfl | rfl | rfl | rfl | rfl | rfl | rfl | rfl | rfl | rfl | rfl
    · exact CW.out.1
    · exact CW.out.1
    · exact CW.out.2.1
    · exact CW.out.1
    · exact CW.out.2.1
    · exact CW.out.1
    · exact CW.out.2.1
    · exact CW.out.2.2.1
    · exact CW.out.2.2.2
    · exact CW.out.1
    · exact CW.out.2.1
  clear hK K
  try simp only [Act.put, List.getElem_toArray, List.getElem_cons_zero, List.getElem_cons_succ, List.setIfInBounds_toArray, List.set_cons_zero, List.set_cons_succ]
  refine wpG_take (i := 51) (v := ?_) rfl (by kernel_rfl) rfl (by kernel_rfl) (by kernel_rfl) (fun _ _ _ h => h) (by rfl) ?_ (asks_none rfl _) ?_
  rotate_left
  · intro w _; go_simp; rfl
  simp only [Act.put, List.getElem_toArray, List.getElem_cons_zero, List.getElem_cons_succ, List.setIfInBounds_toArray, List.set_cons_zero, List.set_cons_succ]
  refine wpG_loud (i := 70) rfl rfl rfl (by kernel_rfl) (fun K hK => ?_)
  go_simp
  refine (envA_choose E9.out (by have := G18.out; omega) L0.out L1.out (G9.out.lits AX.out) (G9.out.lits AY.out) (S0.out.fr F9.out (by decide)) (S1.out.fr F9.out (by decide)) ON.out (G9.out.lit AL.out)).mono ?_
  rw [HC.out]
  rintro e w10 ⟨A10, cc10, rfl, -, hs, -, hx, hg, he5, hf⟩
  have SC10 := Lib.hid hs
  have SQ10 := Lib.hid ((SQ9.out).fr hf (by decide))
  have SR10 := Lib.hid ((SR9.out).fr hf (by decide))
  have SN10 := Lib.hid ((SN9.out).fr hf (by decide))
  have SS10 := Lib.hid ((SS9.out).fr hf (by decide))
  have SB10 := Lib.hid ((SB9.out).fr hf (by decide))
  have SM10 := Lib.hid ((SM9.out).fr hf (by decide))
  have G10 := Lib.hid (G9.out.trans hg)
  have E10 := Lib.hid he5
  have F10 : Hid (Fr w.heap.size [116, 123] [m] w4 w10) := F9.out.trans hf
  have CW : Hid (CF bw ow A0 A1 c0 c1 c2 q b3 o3 L w10) := CFH.out w10 F10.out
  clear hs hx hg he5 hf
  refine hK _ _ ?_ ?_
  · intro q hq hwt; simp only [List.mem_cons, List.not_mem_nil, or_false] at hq; rcases hq with rfl | rfl | rfl | rfl | rfl | rfl | rfl | rfl | rfl | rfl | rfl
    · exact CW.out.1
    · exact CW.out.1
    · exact CW.out.2.1
    · exact CW.out.1
    · exact CW.out.2.1
    · exact CW.out.1
    · exact CW.out.2.1
    · exact CW.out.2.2.1
    · exact CW.out.2.2.2
    · exact CW.out.1
    · exact CW.out.2.1
  clear hK K
  try simp only [Act.put, List.getElem_toArray, List.getElem_cons_zero, List.getElem_cons_succ, List.setIfInBounds_toArray, List.set_cons_zero, List.set_cons_succ]
  refine wpG_take (i := 72) (v := ?_) rfl (by kernel_rfl) rfl (by kernel_rfl) (by kernel_rfl) (fun _ _ _ h => h) (by rfl) ?_ (asks_none rfl _) ?_
  rotate_left
  · intro w _; go_simp; rfl
  simp only [Act.put, List.getElem_toArray, List.getElem_cons_zero, List.getElem_cons_succ, List.setIfInBounds_toArray, List.set_cons_zero, List.set_cons_succ]
  refine wpG_loud (i := 73) rfl rfl rfl (by kernel_rfl) (fun K hK => ?_)
  go_simp
  obtain ⟨wz, hwz⟩ : ∃ wz : World, wz = w10.alloc (.cells #[.slice A6 q cc6, .int .i64 v1, .slice A7 q cc7, .int .i64 v2, .slice A8 q cc8, .int .i64 v3, .slice A9 q cc9, .int .i64 v4, .slice Aq q cq, .int .i64 Q, .slice Ar q cr, .int .i64 R, .slice A10 q cc10, .int .i64 y] 54) := ⟨_, rfl⟩
  rw [← hwz]
  have hbz : Below w10.heap.size w10 wz := by rw [hwz]; exact below_alloc _ _
  have F11 : Hid (Fr w.heap.size [116, 123] [m] w4 wz) := F10.out.trans (Fr.of_below hbz)
  have CW : Hid (CF bw ow A0 A1 c0 c1 c2 q b3 o3 L wz) := CFH.out wz F11.out
  have HWZ := Lib.hid hwz
  have HBZ := Lib.hid hbz
  clear hwz hbz
  refine hK _ _ ?_ ?_
  · intro q hq hwt; simp only [List.mem_cons, List.not_mem_nil, or_false] at hq; rcases hq with rfl | rfl | rfl | rfl | rfl | rfl | rfl | rfl | rfl | rfl | rfl
    · exact CW.out.1
    · exact CW.out.1
    · exact CW.out.2.1
    · exact CW.out.1
    · exact CW.out.2.1
    · exact CW.out.1
    · exact CW.out.2.1
    · exact CW.out.2.2.1
    · exact CW.out.2.2.2
    · exact CW.out.1
    · exact CW.out.2.1
  clear hK K
  try simp only [Act.put, List.getElem_toArray, List.getElem_cons_zero, List.getElem_cons_succ, List.setIfInBounds_toArray, List.set_cons_zero, List.set_cons_succ]
  refine wpG_take (i := 74) (oi := ⟨some 175, _, _, _, _, _⟩) (v := ?_) rfl (by kernel_rfl) rfl (by kernel_rfl) (by kernel_rfl) (fun _ _ _ h => h) (by rfl) ?_ (asks_none rfl _) ?_
  rotate_left
  · intro w _; go_simp; rfl
  simp only [Act.put, List.getElem_toArray, List.getElem_cons_zero, List.getElem_cons_succ, List.setIfInBounds_toArray, List.set_cons_zero, List.set_cons_succ]
  refine wpG_done (by kernel_rfl) ?_
  clear k1 k2 k3 k4
  have HZF : Hid (ZF q ins ch.g w.heap.size w10.heap.size wz) := fun k hk => by
    obtain rfl | rfl | rfl | rfl | rfl | rfl | rfl : k = 0 ∨ k = 1 ∨ k = 2 ∨ k = 3 ∨ k = 4 ∨ k = 5 ∨ k = 6 := by omega
    · exact ⟨A6, cc6, n.out, v1, by rw [HWZ.out, z_cell]; rfl, by rw [HWZ.out, z_cell]; rfl, T3.out, SN10.out.below HBZ.out⟩
    · exact ⟨A7, cc7, s.out, v2, by rw [HWZ.out, z_cell]; rfl, by rw [HWZ.out, z_cell]; rfl, T4.out, SS10.out.below HBZ.out⟩
    · exact ⟨A8, cc8, b.out, v3, by rw [HWZ.out, z_cell]; rfl, by rw [HWZ.out, z_cell]; rfl, T5.out, SB10.out.below HBZ.out⟩
    · exact ⟨A9, cc9, mm.out, v4, by rw [HWZ.out, z_cell]; rfl, by rw [HWZ.out, z_cell]; rfl, T6.out, SM10.out.below HBZ.out⟩
    · exact ⟨Aq, cq, d.q, Q, by rw [HWZ.out, z_cell]; rfl, by rw [HWZ.out, z_cell]; rfl, T1.out, SQ10.out.below HBZ.out⟩
    · exact ⟨Ar, cr, d.r, R, by rw [HWZ.out, z_cell]; rfl, by rw [HWZ.out, z_cell]; rfl, T2.out, SR10.out.below HBZ.out⟩
    · exact ⟨A10, cc10, ch.out, y, by rw [HWZ.out, z_cell]; rfl, by rw [HWZ.out, z_cell]; rfl, T7.out, SC10.out.below HBZ.out⟩
  have E11 := Lib.hid (E10.out.below HBZ.out)
  have SI11 := Lib.hid (SI4.out.fr F11.out (by decide))
  obtain ⟨bz, hbz⟩ : ∃ bz, w10.heap.size = bz := ⟨_, rfl⟩
  rw [hbz] at HZF ⊢
  have CHW : Hid (GWf ch.g) := OK.out.wf
  clear hbz HWZ HBZ CW SQ10 SR10 SN10 SS10 SB10 SM10 SC10 T1 T2 T3 T4 T5 T6 T7
  go_wp2
  go_loopw [24, 25, 26, 176] (fun _ _ _ i wr => ∃ k : Nat, k ≤ 7 ∧ i = .int .i64 k ∧ Below wz.heap.size wz wr) (fun _ _ _ i _ => 7 - (intOf i).toNat)
  case atStart => exact ⟨0, by omega, rfl, Below.refl _ _⟩
  case round =>
    obtain ⟨k, hk, rfl, hbr⟩ := hrel
    by_cases hlt : k < 7
    · rename_i wr
      obtain ⟨A, c, ws, v, hc0, hc1, hok, hsw⟩ := (HZF.out.below hbr) k hlt
      have OKV := Lib.hid hok
      have SWS := Lib.hid hsw
      have HBR := Lib.hid hbr
      clear hok hsw hbr
      go_wp2
      obtain ⟨bq, hbq⟩ : ∃ bq, wr.heap.size = bq := ⟨_, rfl⟩
      have hza0 : (wr.alloc (.cells #[.slice A q c, .int .i64 v] 54)).cell? ⟨wr.heap.size, 0, none⟩ = some (.slice A q c) := z_cell _ _ _ 0
      have hza1 : (wr.alloc (.cells #[.slice A q c, .int .i64 v] 54)).cell? ⟨wr.heap.size, 1, none⟩ = some (.int .i64 v) := z_cell _ _ _ 1
      have hbw : Below wr.heap.size wr (wr.alloc (.cells #[.slice A q c, .int .i64 v] 54)) := below_alloc _ _
      obtain ⟨wa, hwa⟩ : ∃ wa : World, wr.alloc (.cells #[.slice A q c, .int .i64 v] 54) = wa := ⟨_, rfl⟩
      have HBW : Hid (Below wz.heap.size wz wa) := by rw [← hwa]; exact HBR.out.trans (hbw.mono HBR.out.size)
      have SWA : Hid (SlI wa w.heap.size A c ws) := by rw [← hwa]; exact SWS.out.below hbw
      rw [hwa, hbq] at hza0 hza1
      rw [hwa, hbq]
      clear hwa hbq hbw hc0 hc1 HBR SWS
      refine wp_region_G [1, 5] [(4, fun w' => w'.cell? ⟨bq, 0, none⟩ = some (.slice A q c))] (by kernel_rfl) ?_
      refine wpG_take (i := 0) (v := ?_) rfl (by kernel_rfl) rfl (by kernel_rfl) (by kernel_rfl) (fun _ _ _ h => h) (by rfl) ?_ (asks_none rfl _) ?_
      rotate_left
      · intro w _; go_simp; rfl
      simp only [Act.put, List.getElem_toArray, List.getElem_cons_zero, List.getElem_cons_succ, List.setIfInBounds_toArray, List.set_cons_zero, List.set_cons_succ]
      refine wpG_take (i := 2) (v := ?_) rfl (by kernel_rfl) rfl (by kernel_rfl) (by kernel_rfl) (fun _ _ _ h => h) (by rfl) ?_ (asks_none rfl _) ?_
      rotate_left
      · intro w _; go_simp; rfl
      simp only [Act.put, List.getElem_toArray, List.getElem_cons_zero, List.getElem_cons_succ, List.setIfInBounds_toArray, List.set_cons_zero, List.set_cons_succ]
      refine wpG_take (i := 3) (v := ?_) rfl (by kernel_rfl) rfl (by kernel_rfl) (by kernel_rfl) (fun _ _ _ h => h) (by rfl) ?_ (asks_none rfl _) ?_
      rotate_left
      · intro w _; go_simp; rfl
      simp only [Act.put, List.getElem_toArray, List.getElem_cons_zero, List.getElem_cons_succ, List.setIfInBounds_toArray, List.set_cons_zero, List.set_cons_succ]
      refine wpG_take (i := 4) (v := ?_) rfl (by kernel_rfl) rfl (by kernel_rfl) (by kernel_rfl) (fun _ _ _ h => h) (by rfl) ?_ (by simp [asksOf]; exact hza0) ?_
      rotate_left
      · intro w hw; simp [asksOf] at hw; go_simp; rfl
      simp only [Act.put, List.getElem_toArray, List.getElem_cons_zero, List.getElem_cons_succ, List.setIfInBounds_toArray, List.set_cons_zero, List.set_cons_succ]
      refine wpG_loud (i := 1) rfl rfl rfl (by kernel_rfl) (fun K hK => ?_)
      go_simp
      refine (circuit_env ((E11.out.below HBW.out).below (below_drewN (Below.refl _ _) 1))).mono ?_
      rintro e w20 ⟨A20, c20, rfl, hc20, hb20⟩
      have hb20' : Below wa.heap.size wa w20 := (below_drewN (Below.refl _ _) 1).trans hb20
      have hzb0 := (hb20'.cell (cell_lt hza0)).trans hza0
      have hzb1 := (hb20'.cell (cell_lt hza1)).trans hza1
      have HC20 := Lib.hid hc20
      have SW20 := Lib.hid (SWA.out.below hb20')
      have HB20 : Hid (Below wz.heap.size wz w20) := HBW.out.trans (hb20'.mono HBW.out.size)
      clear hb20 hb20' hc20 hza0 hza1
      refine hK _ _ ?_ ?_
      · intro q hq hwt; simp only [List.mem_cons, List.not_mem_nil, or_false] at hq; rcases hq with rfl
        · exact hzb0
      clear hK K
      try simp only [Act.put, List.getElem_toArray, List.getElem_cons_zero, List.getElem_cons_succ, List.setIfInBounds_toArray, List.set_cons_zero, List.set_cons_succ]
      refine wpG_loud (i := 5) rfl rfl rfl (by kernel_rfl) (fun K hK => ?_)
      go_simp
      refine (geval_n (g := ch.g) (ins := ins) (xs := ws) HIL.out OKV.out.len (by have h1 := F11.out.size; have h2 := HB20.out.size; have h3 := HB4.out.size; omega) CHW.out HC20.out (SI11.out.below HB20.out) HCI.out SW20.out OKV.out.lits (by omega)).mono ?_
      rintro e w21 ⟨A21, c21, rfl, hs21, hb21⟩
      have hzc0 := (hb21.cell (cell_lt hzb0)).trans hzb0
      have hzc1 := (hb21.cell (cell_lt hzb1)).trans hzb1
      have SV21 := Lib.hid hs21
      have HB21 : Hid (Below wz.heap.size wz w21) := HB20.out.trans (hb21.mono HB20.out.size)
      clear hb21 hs21 hzb0 hzb1
      refine hK _ _ ?_ ?_
      · intro q hq hwt; simp only [List.mem_cons, List.not_mem_nil, or_false] at hq; rcases hq with rfl
        · exact hzc0
      clear hK K
      try simp only [Act.put, List.getElem_toArray, List.getElem_cons_zero, List.getElem_cons_succ, List.setIfInBounds_toArray, List.set_cons_zero, List.set_cons_succ]
      refine wpG_take (i := 6) (v := ?_) rfl (by kernel_rfl) rfl (by kernel_rfl) (by kernel_rfl) (fun _ _ _ h => h) (by rfl) ?_ (asks_none rfl _) ?_
      rotate_left
      · intro w _; go_simp; rfl
      simp only [Act.put, List.getElem_toArray, List.getElem_cons_zero, List.getElem_cons_succ, List.setIfInBounds_toArray, List.set_cons_zero, List.set_cons_succ]
      refine wpG_take (i := 7) (v := ?_) rfl (by kernel_rfl) rfl (by kernel_rfl) (by kernel_rfl) (fun _ _ _ h => h) (by rfl) ?_ (asks_none rfl _) ?_
      rotate_left
      · intro w _; go_simp; rfl
      simp only [Act.put, List.getElem_toArray, List.getElem_cons_zero, List.getElem_cons_succ, List.setIfInBounds_toArray, List.set_cons_zero, List.set_cons_succ]
      refine wpG_take (i := 8) (v := ?_) rfl (by kernel_rfl) rfl (by kernel_rfl) (by kernel_rfl) (fun _ _ _ h => h) (by rfl) ?_ (asks_none rfl _) ?_
      rotate_left
      · intro w _; go_simp; rfl
      simp only [Act.put, List.getElem_toArray, List.getElem_cons_zero, List.getElem_cons_succ, List.setIfInBounds_toArray, List.set_cons_zero, List.set_cons_succ]
      refine wpG_take (i := 9) (v := ?_) rfl (by kernel_rfl) rfl (by kernel_rfl) (by kernel_rfl) (fun _ _ _ h => h) (by rfl) ?_ (asks_none rfl _) ?_
      rotate_left
      · intro w _; go_simp; rfl
      simp only [Act.put, List.getElem_toArray, List.getElem_cons_zero, List.getElem_cons_succ, List.setIfInBounds_toArray, List.set_cons_zero, List.set_cons_succ]
      refine wpG_take (i := 10) (v := ?_) rfl (by kernel_rfl) rfl (by kernel_rfl) (by kernel_rfl) (fun _ _ _ h => h) (by rfl) ?_ (asks_none rfl _) ?_
      rotate_left
      · intro w _; go_simp; rfl
      simp only [Act.put, List.getElem_toArray, List.getElem_cons_zero, List.getElem_cons_succ, List.setIfInBounds_toArray, List.set_cons_zero, List.set_cons_succ]
      refine wpG_done (by kernel_rfl) ?_
      clear hzc0
      go_wp2
      go_quiet ((go_at_call 27; exact quiet_left (value_n (v := v) (by rw [evs_length]; exact OKV.out.len) OKV.out.val (SV21.out.drewN _))))
      go_wp2
      go_roundw
      case rel => exact ⟨k + 1, by omega, by go_num, below_drewN HB21.out _⟩
      case measure => simp [intOf]; omega
    · rename_i wr
      have hk7 : k = 7 := by omega
      subst hk7
      have F12 : Hid (Fr w.heap.size [116, 123] [m] w4 wr) := F11.out.trans (Fr.of_below hbr)
      have E12 := Lib.hid (E11.out.below hbr)
      have CW : Hid (CF bw ow A0 A1 c0 c1 c2 q b3 o3 L wr) := CFH.out wr F12.out
      clear hbr hlt hk HZF
      go_wp2
      refine wp_region_G [7, 15] [(3, fun w' => w'.cell? ⟨bw, ow, none⟩ = some (.slice A0 q c0)), (6, fun w' => w'.cell? ⟨bw, ow + 1, none⟩ = some (.slice A1 q c1)), (11, fun w' => w'.cell? ⟨bw, ow, none⟩ = some (.slice A0 q c0)), (14, fun w' => w'.cell? ⟨bw, ow + 1, none⟩ = some (.slice A1 q c1))] (by kernel_rfl) ?_
      refine wpG_take (i := 0) (v := ?_) rfl (by kernel_rfl) rfl (by kernel_rfl) (by kernel_rfl) (fun _ _ _ h => h) (by rfl) ?_ (asks_none rfl _) ?_
      rotate_left
      · intro w _; go_simp; rfl
      simp only [Act.put, List.getElem_toArray, List.getElem_cons_zero, List.getElem_cons_succ, List.setIfInBounds_toArray, List.set_cons_zero, List.set_cons_succ]
      refine wpG_take (i := 1) (v := ?_) rfl (by kernel_rfl) rfl (by kernel_rfl) (by kernel_rfl) (fun _ _ _ h => h) (by rfl) ?_ (asks_none rfl _) ?_
      rotate_left
      · intro w _; go_simp; rfl
      simp only [Act.put, List.getElem_toArray, List.getElem_cons_zero, List.getElem_cons_succ, List.setIfInBounds_toArray, List.set_cons_zero, List.set_cons_succ]
      refine wpG_take (i := 2) (v := ?_) rfl (by kernel_rfl) rfl (by kernel_rfl) (by kernel_rfl) (fun _ _ _ h => h) (by rfl) ?_ (asks_none rfl _) ?_
      rotate_left
      · intro w _; go_simp; rfl
      simp only [Act.put, List.getElem_toArray, List.getElem_cons_zero, List.getElem_cons_succ, List.setIfInBounds_toArray, List.set_cons_zero, List.set_cons_succ]
      refine wpG_take (i := 3) (v := ?_) rfl (by kernel_rfl) rfl (by kernel_rfl) (by kernel_rfl) (fun _ _ _ h => h) (by rfl) ?_ (by simp [asksOf]; exact CW.out.1) ?_
      rotate_left
      · intro w hw; simp [asksOf] at hw; go_simp; rfl
      simp only [Act.put, List.getElem_toArray, List.getElem_cons_zero, List.getElem_cons_succ, List.setIfInBounds_toArray, List.set_cons_zero, List.set_cons_succ]
      refine wpG_take (i := 4) (v := ?_) rfl (by kernel_rfl) rfl (by kernel_rfl) (by kernel_rfl) (fun _ _ _ h => h) (by rfl) ?_ (asks_none rfl _) ?_
      rotate_left
      · intro w _; go_simp; rfl
      simp only [Act.put, List.getElem_toArray, List.getElem_cons_zero, List.getElem_cons_succ, List.setIfInBounds_toArray, List.set_cons_zero, List.set_cons_succ]
      refine wpG_take (i := 5) (v := ?_) rfl (by kernel_rfl) rfl (by kernel_rfl) (by kernel_rfl) (fun _ _ _ h => h) (by rfl) ?_ (asks_none rfl _) ?_
      rotate_left
      · intro w _; go_simp; rfl
      simp only [Act.put, List.getElem_toArray, List.getElem_cons_zero, List.getElem_cons_succ, List.setIfInBounds_toArray, List.set_cons_zero, List.set_cons_succ]
      refine wpG_take (i := 6) (v := ?_) rfl (by kernel_rfl) rfl (by kernel_rfl) (by kernel_rfl) (fun _ _ _ h => h) (by rfl) ?_ (by simp [asksOf]; exact CW.out.2.1) ?_
      rotate_left
      · intro w hw; simp [asksOf] at hw; go_simp; rfl
      simp only [Act.put, List.getElem_toArray, List.getElem_cons_zero, List.getElem_cons_succ, List.setIfInBounds_toArray, List.set_cons_zero, List.set_cons_succ]
      refine wpG_take (i := 8) (v := ?_) rfl (by kernel_rfl) rfl (by kernel_rfl) (by kernel_rfl) (fun _ _ _ h => h) (by rfl) ?_ (asks_none rfl _) ?_
      rotate_left
      · intro w _; go_simp; rfl
      simp only [Act.put, List.getElem_toArray, List.getElem_cons_zero, List.getElem_cons_succ, List.setIfInBounds_toArray, List.set_cons_zero, List.set_cons_succ]
      refine wpG_take (i := 9) (v := ?_) rfl (by kernel_rfl) rfl (by kernel_rfl) (by kernel_rfl) (fun _ _ _ h => h) (by rfl) ?_ (asks_none rfl _) ?_
      rotate_left
      · intro w _; go_simp; rfl
      simp only [Act.put, List.getElem_toArray, List.getElem_cons_zero, List.getElem_cons_succ, List.setIfInBounds_toArray, List.set_cons_zero, List.set_cons_succ]
      refine wpG_take (i := 10) (v := ?_) rfl (by kernel_rfl) rfl (by kernel_rfl) (by kernel_rfl) (fun _ _ _ h => h) (by rfl) ?_ (asks_none rfl _) ?_
      rotate_left
      · intro w _; go_simp; rfl
      simp only [Act.put, List.getElem_toArray, List.getElem_cons_zero, List.getElem_cons_succ, List.setIfInBounds_toArray, List.set_cons_zero, List.set_cons_succ]
      refine wpG_take (i := 11) (v := ?_) rfl (by kernel_rfl) rfl (by kernel_rfl) (by kernel_rfl) (fun _ _ _ h => h) (by rfl) ?_ (by simp [asksOf]; exact CW.out.1) ?_
      rotate_left
      · intro w hw; simp [asksOf] at hw; go_simp; rfl
      simp only [Act.put, List.getElem_toArray, List.getElem_cons_zero, List.getElem_cons_succ, List.setIfInBounds_toArray, List.set_cons_zero, List.set_cons_succ]
      refine wpG_take (i := 12) (v := ?_) rfl (by kernel_rfl) rfl (by kernel_rfl) (by kernel_rfl) (fun _ _ _ h => h) (by rfl) ?_ (asks_none rfl _) ?_
      rotate_left
      · intro w _; go_simp; rfl
      simp only [Act.put, List.getElem_toArray, List.getElem_cons_zero, List.getElem_cons_succ, List.setIfInBounds_toArray, List.set_cons_zero, List.set_cons_succ]
      refine wpG_take (i := 13) (v := ?_) rfl (by kernel_rfl) rfl (by kernel_rfl) (by kernel_rfl) (fun _ _ _ h => h) (by rfl) ?_ (asks_none rfl _) ?_
      rotate_left
      · intro w _; go_simp; rfl
      simp only [Act.put, List.getElem_toArray, List.getElem_cons_zero, List.getElem_cons_succ, List.setIfInBounds_toArray, List.set_cons_zero, List.set_cons_succ]
      refine wpG_take (i := 14) (v := ?_) rfl (by kernel_rfl) rfl (by kernel_rfl) (by kernel_rfl) (fun _ _ _ h => h) (by rfl) ?_ (by simp [asksOf]; exact CW.out.2.1) ?_
      rotate_left
      · intro w hw; simp [asksOf] at hw; go_simp; rfl
      simp only [Act.put, List.getElem_toArray, List.getElem_cons_zero, List.getElem_cons_succ, List.setIfInBounds_toArray, List.set_cons_zero, List.set_cons_succ]
      refine wpG_loud (i := 7) rfl rfl rfl (by kernel_rfl) (fun K hK => ?_)
      go_simp
      refine (envA_equal (E12.out.below (below_drewN (Below.refl _ _) 1)) (by have := G18.out; omega) L0.out L1.out (G10.out.lits AX.out) (G10.out.lits AY.out) (S0.out.fr (F12.out.drewN 1) (by decide)) (S1.out.fr (F12.out.drewN 1) (by decide))).mono ?_
      rw [HE.out]
      rintro e w30 ⟨rfl, hx30, hg, he5, hf⟩
      have G30 := Lib.hid (G10.out.trans hg)
      have E30 := Lib.hid he5
      have F30 : Hid (Fr w.heap.size [116, 123] [m] w4 w30) := (F12.out.drewN 1).trans hf
      have X30 := Lib.hid hx30
      have CW : Hid (CF bw ow A0 A1 c0 c1 c2 q b3 o3 L w30) := CFH.out w30 F30.out
      clear hx30 hg he5 hf
      refine hK _ _ ?_ ?_
      · intro q hq hwt; simp only [List.mem_cons, List.not_mem_nil, or_false] at hq; rcases hq with rfl | rfl | rfl | rfl
        · exact CW.out.1
        · exact CW.out.2.1
        · exact CW.out.1
        · exact CW.out.2.1
      clear hK K
      try simp only [Act.put, List.getElem_toArray, List.getElem_cons_zero, List.getElem_cons_succ, List.setIfInBounds_toArray, List.set_cons_zero, List.set_cons_succ]
      refine wpG_loud (i := 15) rfl rfl rfl (by kernel_rfl) (fun K hK => ?_)
      go_simp
      refine (envA_less E30.out (by have := G18.out; omega) L0.out L1.out (G30.out.lits AX.out) (G30.out.lits AY.out) (S0.out.fr F30.out (by decide)) (S1.out.fr F30.out (by decide))).mono ?_
      rw [HL.out]
      rintro e w31 ⟨rfl, hx31, hg, he5, hf⟩
      have E31 := Lib.hid he5
      have F31 : Hid (Fr w.heap.size [116, 123] [m] w4 w31) := F30.out.trans hf
      have X31 := Lib.hid hx31
      have X30' := Lib.hid (hg.lit X30.out)
      have CW : Hid (CF bw ow A0 A1 c0 c1 c2 q b3 o3 L w31) := CFH.out w31 F31.out
      clear hx31 hg he5 hf
      refine hK _ _ ?_ ?_
      · intro q hq hwt; simp only [List.mem_cons, List.not_mem_nil, or_false] at hq; rcases hq with rfl | rfl | rfl | rfl
        · exact CW.out.1
        · exact CW.out.2.1
        · exact CW.out.1
        · exact CW.out.2.1
      clear hK K
      try simp only [Act.put, List.getElem_toArray, List.getElem_cons_zero, List.getElem_cons_succ, List.setIfInBounds_toArray, List.set_cons_zero, List.set_cons_succ]
      refine wpG_take (i := 16) (v := ?_) rfl (by kernel_rfl) rfl (by kernel_rfl) (by kernel_rfl) (fun _ _ _ h => h) (by rfl) ?_ (asks_none rfl _) ?_
      rotate_left
      · intro w _; go_simp; rfl
      simp only [Act.put, List.getElem_toArray, List.getElem_cons_zero, List.getElem_cons_succ, List.setIfInBounds_toArray, List.set_cons_zero, List.set_cons_succ]
      refine wpG_take (i := 17) (v := ?_) rfl (by kernel_rfl) rfl (by kernel_rfl) (by kernel_rfl) (fun _ _ _ h => h) (by rfl) ?_ (asks_none rfl _) ?_
      rotate_left
      · intro w _; go_simp; rfl
      simp only [Act.put, List.getElem_toArray, List.getElem_cons_zero, List.getElem_cons_succ, List.setIfInBounds_toArray, List.set_cons_zero, List.set_cons_succ]
      refine wpG_done (by kernel_rfl) ?_
      obtain ⟨be, hbe⟩ : ∃ be, decide (x = y) = be := ⟨_, rfl⟩
      obtain ⟨bl, hbl⟩ : ∃ bl, decide (x < y) = bl := ⟨_, rfl⟩
      have hev : Hid (evs ls.g ins [eq.x, ls.x] = [be, bl]) := by
        show _ = _
        rw [← hbe, ← hbl, ← VE.out, ← VL.out]; rfl
      have hbe1 : (be == (x == y)) = true := by rw [← hbe]; by_cases h : x = y <;> simp [h]
      have hbl1 : (bl == decide (x < y)) = true := by rw [← hbl]; exact beq_self_eq_true _
      have LW : Hid (GWf ls.g) := OK.out.lwf
      clear hbe hbl CW
      go_wp2_with (first
        | (go_at_call 50; go_must (refine (circuit_env E31.out).mono ?_; rintro e w32 ⟨A32, c32, rfl, hc32, hb32⟩; have HC32 := Lib.hid hc32; have HB32 := Lib.hid hb32; clear hc32 hb32))
        | (go_at_call 49; go_must (refine (geval_n (g := ls.g) (ins := ins) (xs := [eq.x, ls.x]) (n2 := 2) HIL.out rfl (by have h1 := F31.out.size; have h2 := HB32.out.size; have h3 := HB4.out.size; simp; omega) LW.out (HC32.out.below (below_alloc _ _)) (((SI4.out.fr F31.out (by decide)).below HB32.out).alloc _) HLI.out (two_newI w32 w.heap.size eq.x ls.x) (fun u hu => by rcases List.mem_cons.1 hu with h | h; (rw [h]; exact X30'.out); (rw [List.mem_singleton.1 h]; exact X31.out)) (by omega)).mono ?_; rw [hev.out]; rintro e w33 ⟨A33, c33, rfl, hs33, hb33⟩; have hb33' : Below w31.heap.size w31 w33 := HB32.out.trans ((below_of1 hb33).mono HB32.out.size); obtain ⟨b9, o9, u9, rfl, hu9, hc9⟩ := hs33.at_ (k := 0) (by simp); have hc9b := hs33.cell (k := 1) (x := bl) (by simp); simp at hu9; subst hu9; have hc9a : w33.cell? ⟨b9, o9, none⟩ = some (.bool be) := hc9; have E33 := Lib.hid (E31.out.below hb33'); have F33 : Hid (Fr w.heap.size [116, 123] [m] w4 w33) := F31.out.trans (Fr.of_below hb33'); clear hb33 hb33' hs33 hc9))
        | (go_at_call 47; go_must (obtain ⟨Ab, cb, hbd⟩ := E33.out.bd; refine (err_any w.heap.size p m Ab cb _ _ hbd).mono ?_; rintro e w34 ⟨rfl, rfl⟩; clear hbd)))
      go_ret
      exact ⟨rfl, HB4.out.trans (F33.out.below HB4.out.size)⟩
end Go.Proofs.Ytgmcajojigedaaa
