/- The reference of chapter 22: Eval (printed by genwi.py). -/
import Derived.Test.YtgmcajojigedaaaWh
import Derived.Test.YtgmcajojigedaaaTl
import Derived.Test.YtgmcajojigedaaaBase
set_option linter.unusedSimpArgs false
set_option linter.unusedVariables false
namespace Go.Proofs.Ytgmcajojigedaaa
open Go.RowKit

theorem make_ints (w : World) (n : Nat) (hn : n ≤ 1000000) : ∃ w1, (Instr.makeSlice 24 (.int .i64 (n : Int)) (.int .i64 (n : Int))).run Try.prog w = .ok (.slice (some ⟨w.heap.size, 0, none⟩) n n) w1 ∧ OwnI w1 w.heap.size (.slice (some ⟨w.heap.size, 0, none⟩) n n) (List.replicate n 0) ∧ w.grownBy w1 none ∧ w.heap.size < w1.heap.size := by
  obtain ⟨i, hi, h0, h1, h2⟩ := info_parts Try.info3
  obtain ⟨w1, h3, h4, h5⟩ := run_make_full (P := Try.prog) w w.heap.size 24 3 i _ 1 Try.underlying24 hi h0 h1 .i64 .i64 n (by rw [h2]; omega) (by unfold maxLen; omega) (Nat.le_refl _)
  refine ⟨w1, h3, ?_, h5, ?_⟩
  · unfold OwnI OwnOf
    rw [List.length_replicate, List.map_replicate]
    have : (madeCells (Value.int .i64 0).cells (n * 1)).toList = List.replicate n (Value.int .i64 0) := by
      rw [Nat.mul_one]
      apply List.ext_getElem?
      intro k
      simp [madeCells, Value.cells]
      by_cases hk : k < n <;> simp [hk, List.getElem?_replicate, Nat.mod_one]
    rw [this] at h4
    exact h4
  · have := World.ownsRow.lt h4 w.heap.size rfl
    omega
/-- The values that the loop has reckoned before node j. -/
def rvF (T : TS) (inp : List Int) (i j x : Nat) : Int := if x < j ∧ mF T i x = true then fV T inp x else 0
def rvL (T : TS) (inp : List Int) (i j : Nat) : List Int := (List.range T.nodes.length).map (rvF T inp i j)
section
variable {A A2 : Option Addr} {c c2 : Nat} {T : TS} {w : World} {inp : List Int} {i : Nat}
theorem rvL_zero : rvL T inp i 0 = List.replicate T.nodes.length 0 := by
  unfold rvL
  apply List.ext_getElem?; intro k; by_cases hk : k < T.nodes.length <;> simp [hk, List.getElem?_replicate, rvF]
theorem rvL_len (j : Nat) : (rvL T inp i j).length = T.nodes.length := by simp [rvL]
theorem rvL_get {j k : Nat} (hk : k < T.nodes.length) : (rvL T inp i j)[k]? = some (rvF T inp i j k) := by simp [rvL, hk]
theorem rvL_skip {j : Nat} (h : mF T i j = false) : rvL T inp i (j + 1) = rvL T inp i j := by
  unfold rvL
  refine List.map_congr_left fun x _ => ?_
  unfold rvF
  by_cases e : x = j
  · subst e; rw [if_neg (by rw [h]; simp), if_neg (by rw [h]; simp)]
  · by_cases hlt : x < j
    · by_cases hm : mF T i x = true
      · rw [if_pos ⟨by omega, hm⟩, if_pos ⟨hlt, hm⟩]
      · rw [if_neg (fun h => hm h.2), if_neg (fun h => hm h.2)]
    · rw [if_neg (by omega), if_neg (by omega)]
theorem rvL_set {j : Nat} (h : mF T i j = true) {v : Int} (hv : fV T inp j = v) (hj : j < T.nodes.length) : rvL T inp i (j + 1) = (rvL T inp i j).set j v := by
  apply List.ext_getElem?
  intro x
  rw [List.getElem?_set]
  by_cases hx : x < T.nodes.length
  · rw [rvL_get hx, rvL_get hx, rvL_len]
    unfold rvF
    by_cases e : j = x
    · subst e; rw [if_pos rfl, if_pos hx, if_pos ⟨by omega, h⟩, hv]
    · rw [if_neg e]
      by_cases hm : x < j ∧ mF T i x = true
      · rw [if_pos ⟨by omega, hm.2⟩, if_pos hm]
      · rw [if_neg (fun h => hm ⟨by omega, h.2⟩), if_neg hm]
  · rw [List.getElem?_eq_none (by rw [rvL_len]; omega), rvL_len]
    split
    · omega
    · rw [List.getElem?_eq_none (by rw [rvL_len]; omega)]
theorem reval_no (hs : SlT w A c T.nodes) (hw : TWf T) {i : Int} (hi : hasB T i = false) :
    Calls Try.prog 74 #[.agg #[.int .i64 T.width, .slice A T.nodes.length c], .int .i64 i, .slice A2 inp.length c2] w (EvRet w (0, 1)) := by
  have key : i < 0 ∨ (0 ≤ i ∧ (T.nodes.length : Int) ≤ i) := by
    unfold hasB at hi
    have := of_decide_eq_false hi
    omega
  clear hs hi
  rcases key with h | ⟨h, h'⟩
  · have e1 : decide (i < 0) = true := decide_eq_true h
    clear h
    go_enter Try.func74, Try.ntmps74
    go_wp2
    go_ret2
    exact ⟨rfl, below_alloc _ _⟩
  · have e1 : decide (i < 0) = false := decide_eq_false (by omega)
    have e2 : decide (i ≥ (T.nodes.length : Int)) = true := decide_eq_true h'
    clear h h'
    go_enter Try.func74, Try.ntmps74
    go_wp2
    go_ret2
    exact ⟨rfl, below_alloc _ _⟩
set_option maxRecDepth 100000 in
set_option maxHeartbeats 8000000 in
theorem reval_yes (hs : SlT w A c T.nodes) (hw : TWf T) (hin : SlI w w.heap.size A2 c2 inp) {i : Nat} {t0 : Tm} (hi : T.nodes[i]? = some t0) :
    Calls Try.prog 74 #[.agg #[.int .i64 T.width, .slice A T.nodes.length c], .int .i64 i, .slice A2 inp.length c2] w (EvRet w (evalF T inp i)) := by
  have hil := (List.getElem?_eq_some_iff.1 hi).1
  have hsz := hw.size
  have hinb := hin.big
  have e1 : decide ((i : Int) < 0) = false := decide_eq_false (by omega)
  have e2 : decide ((i : Int) ≥ (T.nodes.length : Int)) = false := decide_eq_false (by omega)
  have e2' : decide (T.nodes.length ≤ i) = false := decide_eq_false (by omega)
  have HIL := Lib.hid hil
  have HEV : Hid (evalF T inp i = match vAt T inp i with | some v => (v, 0) | none => (0, 2)) := by
    show _ = _
    unfold evalF nodeAt
    rw [if_pos (by omega), Int.toNat_natCast, hi]; rfl
  have HBAD : Hid (∀ k, mF T i k = true → vAt T inp k = none → evalF T inp i = (0, 2)) := fun k hk hn => by rw [HEV.out, vAt_fail hw _ k hk hn]
  have HMRK : Hid (∀ x, mrk T (i : Int) x = mF T i x) := fun x => by
    have : nodeAt T (i : Int) = some t0 := by unfold nodeAt; rw [if_pos (by omega), Int.toNat_natCast, hi]
    unfold mrk; rw [this]; rfl
  have hb0 := below_alloc w (.cells #[.int .i64 T.width, .slice A T.nodes.length c] 66)
  have hbx := heap_alloc_new w (.cells #[.int .i64 T.width, .slice A T.nodes.length c] 66)
  have hz0 : (w.alloc (.cells #[.int .i64 T.width, .slice A T.nodes.length c] 66)).heap.size = w.heap.size + 1 := by simp
  have HB0 := Lib.hid hb0
  have HX0 := Lib.hid hbx
  have HZ0 := Lib.hid hz0
  have HS := Lib.hid hs
  have HIN := Lib.hid hin
  have hmk := fun (W : World) => make_ints W T.nodes.length (by omega)
  have HMK := Lib.hid hmk
  have hld : ∀ W : World, W.cell? ⟨w.heap.size, 0, none⟩ = some (.int .i64 T.width) → W.cell? ⟨w.heap.size, 1, none⟩ = some (.slice A T.nodes.length c) → (loadVar 66 ⟨w.heap.size, 0, none⟩).run Try.prog W = .ok (.agg #[.int .i64 T.width, .slice A T.nodes.length c]) W := fun W h0 h1 => loadVar66 h0 h1
  clear hi hil hs hin hb0 hbx hz0 hmk
  go_enter Try.func74, Try.ntmps74
  go_upto_region 4 with (go_at_call 115; go_must (refine (marks_any (HS.out.below HB0.out) hw i).mono ?_; rintro e w1 ⟨v1, rfl, ho1, hb1⟩; obtain ⟨A1, c1, rfl, hsm⟩ := ho1.sl w1.heap.size; rw [List.length_map, List.length_range]; have HSM := Lib.hid hsm; have HB1 := Lib.hid hb1; clear ho1 hb1 hsm))
  obtain ⟨w2, hmk, hown, hgr, hS⟩ := HMK.out w1
  obtain ⟨S, hSe⟩ : ∃ S, w1.heap.size = S := ⟨_, rfl⟩
  rw [hSe] at hmk hown hS
  rw [← rvL_zero (T := T) (inp := inp) (i := i)] at hown
  have hB2 : Below S w1 w2 := ⟨hgr.os, hgr.tape, hgr.output, hgr.size, fun k hk => hgr.block k (by omega) (by simp)⟩
  have hbx1 : w1.heap[w.heap.size]? = some (.cells #[.int .i64 T.width, .slice A T.nodes.length c] 66 (0, 0)) := (HB1.out.block _ (by have := HZ0.out; omega)).trans HX0.out
  have q1 : w1.cell? ⟨w.heap.size, 1, none⟩ = some (.slice A T.nodes.length c) := by simp [World.cell?, hbx1]
  have HX1 := Lib.hid hbx1
  have HW1 : Hid (Below w.heap.size w w1) := HB0.out.trans (HB1.out.mono (by have := HZ0.out; omega))
  have HSE : Hid (w1.heap.size = S) := hSe
  have HSZ : Hid (w.heap.size < S) := by have := HB1.out.size; have := HZ0.out; show _ < S; rw [← hSe]; omega
  have HB2 := Lib.hid hB2
  have HO2 := Lib.hid hown
  have HS2 := Lib.hid hS
  clear hown hgr hS hB2 hbx1 hSe hld e1 e2 e2'
  go_wp2
  clear hmk q1
  go_loopw [10, 11, 12, 72, 113] (fun u _ _ _ _ wr => ∃ j : Nat, j ≤ i + 1 ∧ u = .int .i64 j ∧ OwnI wr S (.slice (some ⟨S, 0, none⟩) T.nodes.length T.nodes.length) (rvL T inp i j) ∧ (∀ x, x < j → mF T i x = true → vAt T inp x ≠ none) ∧ Below S w1 wr ∧ S < wr.heap.size) (fun u _ _ _ _ _ => i + 1 - (intOf u).toNat)
  case atStart => exact ⟨0, Nat.zero_le _, rfl, HO2.out, fun x hx => by omega, HB2.out, HS2.out⟩
  case round =>
    obtain ⟨j, hj, rfl, hown, hall, hbw, hz⟩ := hrel
    rename_i wr
    have HOWN := Lib.hid hown
    have HALL := Lib.hid hall
    have HBW := Lib.hid hbw
    have hbx : wr.heap[w.heap.size]? = some (.cells #[.int .i64 T.width, .slice A T.nodes.length c] 66 (0, 0)) := (hbw.block _ HSZ.out).trans HX1.out
    have c0 : wr.cell? ⟨w.heap.size, 0, none⟩ = some (.int .i64 T.width) := by simp [World.cell?, hbx]
    have c1 : wr.cell? ⟨w.heap.size, 1, none⟩ = some (.slice A T.nodes.length c) := by simp [World.cell?, hbx]
    have hwl : w.heap.size < wr.heap.size := lt_of_some hbx
    have HWR : Hid (Below w.heap.size w wr) := HW1.out.trans (hbw.mono (by have := HSZ.out; omega))
    by_cases hlt : j ≤ i
    · have hjN : j < T.nodes.length := by have := HIL.out; omega
      have hjI : (j : Int) < (T.nodes.length : Int) := by omega
      have hle : (j : Int) ≤ (i : Int) := by omega
      obtain ⟨bm, om, xm, hA1, hxm, hcm⟩ := (HSM.out.below (by rw [HSE.out]; exact hbw)).at_ (k := j) (by simp; omega)
      have hxm' : xm = mF T i j := by
        rw [List.getElem?_map, List.getElem?_range hjN] at hxm
        have := Option.some.inj hxm
        rw [← this]; exact HMRK.out j
      subst hxm'
      subst hA1
      rcases hm : mF T i j with _ | _
      · rw [hm] at hcm
        have HN : Hid (rvL T inp i (j + 1) = rvL T inp i j) := rvL_skip hm
        have HAL : Hid (∀ x, x < j + 1 → mF T i x = true → vAt T inp x ≠ none) := fun x hx hmx => by
          by_cases e : x = j
          · subst e; rw [hm] at hmx; cases hmx
          · exact HALL.out x (by omega) hmx
        have HZR := Lib.hid hz
        clear hown hall hbw hbx hm hz
        go_wp2
        go_roundw
        case rel => exact ⟨j + 1, by omega, by go_num, by rw [HN.out]; exact HOWN.out, HAL.out, HBW.out, HZR.out⟩
        case measure => simp [intOf]; omega
      · rw [hm] at hcm
        obtain ⟨t, htk⟩ : ∃ t, T.nodes[j]? = some t := ⟨_, List.getElem?_eq_getElem hjN⟩
        obtain ⟨bn, on, hA, hcell⟩ := (HS.out.below HWR.out).2.2 (by omega)
        subst hA
        obtain ⟨n0, n1, n2, n3, n4⟩ := hcell j t htk
        have hfit := hw.fit j t htk
        have HMJ := Lib.hid hm
        have hupd : ∀ (W : World) (v : Int), Below S w1 W → S < W.heap.size → OwnI W S (.slice (some ⟨S, 0, none⟩) T.nodes.length T.nodes.length) (rvL T inp i j) → vAt T inp j = some v →
            OwnI (W.setCell ⟨S, j, none⟩ (.int .i64 v)) S (.slice (some ⟨S, 0, none⟩) T.nodes.length T.nodes.length) (rvL T inp i (j + 1)) ∧ (∀ x, x < j + 1 → mF T i x = true → vAt T inp x ≠ none) ∧ Below S w1 (W.setCell ⟨S, j, none⟩ (.int .i64 v)) ∧ S < (W.setCell ⟨S, j, none⟩ (.int .i64 v)).heap.size := fun W v hb hs ho hv => by
          refine ⟨?_, fun x hx hmx => ?_, hb.setCell (Nat.le_refl _) _, by rw [size_setCell]; exact hs⟩
          · rw [rvL_set HMJ.out (v := v) (by unfold fV; rw [hv]; rfl) hjN]
            exact ho.set (by rw [rvL_len]) j v
          · by_cases e : x = j
            · subst e; rw [hv]; simp
            · exact HALL.out x (by omega) hmx
        have HUPD := Lib.hid hupd
        have hcs : ∀ o : Obj, ∃ old, (wr.alloc o).cell? ⟨S, j, none⟩ = some (.int .i64 old) := fun o => by
          obtain ⟨x, _, hc⟩ := (HOWN.out.alloc o).cell (by rw [rvL_len]) j hjN
          exact ⟨x, hc⟩
        have hfs : ∀ o : Obj, (wr.alloc o).frozen? ⟨S, j, none⟩ = false := fun o => (HOWN.out.alloc o).frozen (by rw [rvL_len]) j
        have HCS := Lib.hid hcs
        have HFS := Lib.hid hfs
        obtain ⟨op, v, a, b, d⟩ := t
        dsimp only at n0 n1 n2 n3 n4
        clear hown hall hbw hbx hm hcell hupd hcs hfs
        rcases hf : formF op with _ | ⟨⟨s0, s1, s2⟩, so⟩
        · have hleaf := vAt_leaf (inp := inp) htk hf
          obtain ⟨-, hcase⟩ := fits_leaf hfit hf
          dsimp only at hleaf hcase
          obtain ⟨old, hcS⟩ := HCS.out (.cells #[.int .i64 op, .int .i64 v, .int .i64 a, .int .i64 b, .int .i64 d] 84)
          have hfS := HFS.out (.cells #[.int .i64 op, .int .i64 v, .int .i64 a, .int .i64 b, .int .i64 d] 84)
          have HZR := Lib.hid hz
          have HUP0 := fun (y : Int) (h : vAt T inp j = some y) =>
            let ⟨h1, h2, h3, h4⟩ := HUPD.out wr y HBW.out HZR.out HOWN.out h
            (⟨h1.alloc (.cells #[.int .i64 op, .int .i64 v, .int .i64 a, .int .i64 b, .int .i64 d] 84), h2, h3.trans ((below_alloc _ (.cells #[.int .i64 op, .int .i64 v, .int .i64 a, .int .i64 b, .int .i64 d] 84)).mono (Nat.le_of_lt h4)), Nat.lt_of_lt_of_le h4 (below_alloc (wr.setCell ⟨S, j, none⟩ (.int .i64 y)) (.cells #[.int .i64 op, .int .i64 v, .int .i64 a, .int .i64 b, .int .i64 d] 84)).size⟩ :
              OwnI ((wr.setCell ⟨S, j, none⟩ (.int .i64 y)).alloc (.cells #[.int .i64 op, .int .i64 v, .int .i64 a, .int .i64 b, .int .i64 d] 84)) S (.slice (some ⟨S, 0, none⟩) T.nodes.length T.nodes.length) (rvL T inp i (j + 1)) ∧ (∀ x, x < j + 1 → mF T i x = true → vAt T inp x ≠ none) ∧ Below S w1 ((wr.setCell ⟨S, j, none⟩ (.int .i64 y)).alloc (.cells #[.int .i64 op, .int .i64 v, .int .i64 a, .int .i64 b, .int .i64 d] 84)) ∧ S < ((wr.setCell ⟨S, j, none⟩ (.int .i64 y)).alloc (.cells #[.int .i64 op, .int .i64 v, .int .i64 a, .int .i64 b, .int .i64 d] 84)).heap.size)
          have HUP := Lib.hid HUP0
          clear HUP0
          rcases hcase with ⟨hop, hv0, hv24⟩ | ⟨hop, _⟩ | ⟨hop, _⟩
          · rw [if_pos hop] at hleaf
            obtain ⟨v0, rfl⟩ := Int.eq_ofNat_of_zero_le hv0
            unfold leafV at hleaf
            dsimp only at hleaf
            by_cases hlen : (inp.length : Int) ≤ (v0 : Int)
            · rw [if_pos hlen] at hleaf
              have HRES : Hid (evalF T inp i = (0, 2)) := HBAD.out j HMJ.out hleaf
              have d1 : decide ((inp.length : Int) ≤ (v0 : Int)) = true := decide_eq_true hlen
              have d2 : decide (inp.length ≤ v0) = true := decide_eq_true (by omega)
              clear hleaf hlen hfit htk hf hv0 hv24 hcS hfS
              rcases hop with rfl | rfl
              · go_wp2
                go_ret2
                rw [HRES.out]
                exact ⟨rfl, HWR.out.trans ((below_alloc _ _).mono HWR.out.size)⟩
              · go_wp2
                go_ret2
                rw [HRES.out]
                exact ⟨rfl, HWR.out.trans ((below_alloc _ _).mono HWR.out.size)⟩
            · rw [if_neg hlen] at hleaf
              have d1 : decide ((inp.length : Int) ≤ (v0 : Int)) = false := decide_eq_false hlen
              have d2 : decide (inp.length ≤ v0) = false := decide_eq_false (by omega)
              have hvI : (v0 : Int) < (inp.length : Int) := by omega
              obtain ⟨bi, oi, y, hA2, hy, hcy⟩ := (HIN.out.below HWR.out).at_ (k := v0) (by omega)
              subst hA2
              have hbl := cell_lt hcy
              dsimp only at hbl
              have hgd : inp.getD (v0 : Int).toNat 0 = y := by rw [Int.toNat_natCast]; exact getD_of hy
              rw [hgd] at hleaf
              obtain ⟨V, hV⟩ : ∃ V, wrapW T.width y = V := ⟨_, rfl⟩
              rw [hV] at hleaf
              have HV := Lib.hid hV
              clear hlen hfit htk hf hv0 hv24 hy hgd hV
              rcases hop with rfl | rfl
              · by_cases hne : V = y
                · have hv : vAt T inp j = some y := by rw [hleaf, if_neg (fun h => h.2 hne), if_neg (fun h => by have := h.1; omega)]
                  have e1 : (V != y) = false := by rw [hne]; exact bne_self_eq_false _
                  have HRES := Lib.hid (HUP.out y hv)
                  clear hleaf hne hv
                  go_wp2_with (go_at_call 98; go_must (refine (rwrap_v HV.out _).mono ?_; rintro e w9 ⟨rfl, rfl⟩))
                  go_roundw
                  case rel => exact ⟨j + 1, by omega, by go_num, HRES.out⟩
                  case measure => simp [intOf]; omega
                · have hv : vAt T inp j = none := by rw [hleaf, if_pos ⟨rfl, hne⟩]
                  have HRES : Hid (evalF T inp i = (0, 2)) := HBAD.out j HMJ.out hv
                  have e1 : (V != y) = true := by rw [bne_iff_ne]; exact hne
                  clear hleaf hne hv hcS hfS
                  go_wp2_with (go_at_call 98; go_must (refine (rwrap_v HV.out _).mono ?_; rintro e w9 ⟨rfl, rfl⟩))
                  go_ret2
                  rw [HRES.out]
                  exact ⟨rfl, HWR.out.trans ((below_alloc _ _).mono HWR.out.size)⟩
              · rw [if_neg (fun h => by have := h.1; omega)] at hleaf
                by_cases hy0 : y = 0
                · subst hy0
                  have hv : vAt T inp j = some 0 := by rw [hleaf, if_neg (fun h => h.2.1 rfl)]
                  have HRES := Lib.hid (HUP.out 0 hv)
                  clear hleaf hv
                  go_wp2
                  go_roundw
                  case rel => exact ⟨j + 1, by omega, by go_num, HRES.out⟩
                  case measure => simp [intOf]; omega
                · by_cases hy1 : y = 1
                  · subst hy1
                    have hv : vAt T inp j = some 1 := by rw [hleaf, if_neg (fun h => h.2.2 rfl)]
                    have HRES := Lib.hid (HUP.out 1 hv)
                    clear hleaf hv hy0
                    go_wp2
                    go_roundw
                    case rel => exact ⟨j + 1, by omega, by go_num, HRES.out⟩
                    case measure => simp [intOf]; omega
                  · have hv : vAt T inp j = none := by rw [hleaf, if_pos ⟨rfl, hy0, hy1⟩]
                    have HRES : Hid (evalF T inp i = (0, 2)) := HBAD.out j HMJ.out hv
                    have e1 : (y != 0) = true := by rw [bne_iff_ne]; exact hy0
                    have e2 : (y != 1) = true := by rw [bne_iff_ne]; exact hy1
                    clear hleaf hv hy0 hy1 hcS hfS
                    go_wp2
                    go_ret2
                    rw [HRES.out]
                    exact ⟨rfl, HWR.out.trans ((below_alloc _ _).mono HWR.out.size)⟩
          · subst hop
            have hv : vAt T inp j = some v := by rw [hleaf, if_neg (by omega)]
            have HRES := Lib.hid (HUP.out v hv)
            clear hleaf hv hfit htk hf
            go_wp2
            go_roundw
            case rel => exact ⟨j + 1, by omega, by go_num, HRES.out⟩
            case measure => simp [intOf]; omega
          · subst hop
            have hv : vAt T inp j = some v := by rw [hleaf, if_neg (by omega)]
            have HRES := Lib.hid (HUP.out v hv)
            clear hleaf hv hfit htk hf
            go_wp2
            go_roundw
            case rel => exact ⟨j + 1, by omega, by go_num, HRES.out⟩
            case measure => simp [intOf]; omega
        · obtain ⟨_, _, ⟨ga1, ga2⟩, ⟨gb1, gb2⟩, ⟨gc1, gc2⟩⟩ := fits_bd hfit (by show (T.nodes.take j).length ≤ _; rw [List.length_take]; omega)
          dsimp only at ga1 ga2 gb1 gb2 gc1 gc2
          obtain ⟨fa0, fa1, fa2, fv⟩ := fits_args_some hfit hf
          dsimp only at fa0 fa1 fa2 fv
          obtain ⟨na, rfl⟩ := Int.eq_ofNat_of_zero_le ga1
          obtain ⟨nb, rfl⟩ := Int.eq_ofNat_of_zero_le gb1
          obtain ⟨nc, rfl⟩ := Int.eq_ofNat_of_zero_le gc1
          obtain ⟨o1, o2⟩ := formF_lt hf
          have hltN : ∀ (s : Int) (n : Nat), argOk ⟨T.width, T.nodes.take j⟩ s (n : Int) = true → n < T.nodes.length := fun s n h => by
            by_cases hs : s = -1
            · unfold argOk at h; rw [if_pos hs] at h; have := of_decide_eq_true h; omega
            · obtain ⟨j', t', h4, h5, h6⟩ := argOk_node h hs
              have := (List.getElem?_eq_some_iff.1 h5).1
              rw [List.length_take] at this
              omega
          have la := hltN _ _ fa0
          have lb := hltN _ _ fa1
          have lc := hltN _ _ fa2
          -- the values that the list holds
          obtain ⟨xa, hxa⟩ : ∃ x, rvF T inp i j na = x := ⟨_, rfl⟩
          obtain ⟨xb, hxb⟩ : ∃ x, rvF T inp i j nb = x := ⟨_, rfl⟩
          obtain ⟨xc, hxc⟩ : ∃ x, rvF T inp i j nc = x := ⟨_, rfl⟩
          have hfVb : ∀ n x, rvF T inp i j n = x → -128 ≤ x ∧ x ≤ 128 := fun n x h => by
            unfold rvF at h
            split at h
            · unfold fV at h
              rcases hvn : vAt T inp n with _ | y
              · rw [hvn] at h; simp at h; omega
              · rw [hvn] at h; simp at h; have := vAt_bd hw hvn; omega
            · omega
          have ba := hfVb _ _ hxa
          have bb := hfVb _ _ hxb
          have harg : ∀ (s' : Int) (n : Nat) (x : Int), argOk ⟨T.width, T.nodes.take j⟩ s' (n : Int) = true → s' ≠ -1 → n ∈ argsAt T j → rvF T inp i j n = x → argV (vAt T inp) s' (n : Int) = some x ∧ okV T.width s' x := fun s' n x ho hs hm h => by
            have h2 := args_lt hw hm
            have h3 := mF_args hw (by omega) HMJ.out hm
            unfold rvF at h
            rw [if_pos ⟨h2, h3⟩] at h
            rcases hvn : vAt T inp n with _ | y
            · exact absurd hvn (HALL.out n h2 h3)
            · unfold fV at h
              rw [hvn] at h
              simp at h
              subst h
              refine ⟨by unfold argV; rw [if_neg hs, Int.toNat_natCast]; exact hvn, ?_⟩
              obtain ⟨j', t', h4, h5, h6⟩ := argOk_node ho hs
              have : j' = n := by omega
              subst this
              have hjl := (List.getElem?_eq_some_iff.1 h5).1
              rw [List.length_take] at hjl
              rw [List.getElem?_take_of_lt (by omega)] at h5
              rw [← h6]
              exact vAt_ok hw _ _ (Nat.lt_succ_self _) h5 hvn
          have hargs : argsAt T j = (if s0 = -1 then [] else [na]) ++ ((if s1 = -1 then [] else [nb]) ++ (if s2 = -1 then [] else [nc])) := by
            unfold argsAt; rw [htk]; dsimp only; unfold argsL; dsimp only; rw [hf]; simp
          have hs0 : s0 ≠ -1 := by rcases formF_cases hf with ⟨_, h⟩ | ⟨_, h⟩ | ⟨_, h⟩ | ⟨_, h⟩ | ⟨_, h⟩ | ⟨_, h⟩ | ⟨_, h⟩ <;> (simp only [Prod.mk.injEq] at h; omega)
          obtain ⟨va, oka⟩ := harg s0 na xa fa0 hs0 (by rw [hargs, if_neg hs0]; simp) hxa
          obtain ⟨yb, vb, okb, eqb⟩ : ∃ y, argV (vAt T inp) s1 (nb : Int) = some y ∧ okV T.width s1 y ∧ (s1 ≠ -1 → xb = y) := by
            by_cases h : s1 = -1
            · exact ⟨0, by unfold argV; rw [if_pos h], by rw [h]; exact okV_none, fun h' => absurd h h'⟩
            · obtain ⟨h1, h2⟩ := harg s1 nb xb fa1 h (by rw [hargs, if_neg h]; simp) hxb
              exact ⟨xb, h1, h2, fun _ => rfl⟩
          obtain ⟨yc, vc, okc, eqc⟩ : ∃ y, argV (vAt T inp) s2 (nc : Int) = some y ∧ okV T.width s2 y ∧ (s2 ≠ -1 → xc = y) := by
            by_cases h : s2 = -1
            · exact ⟨0, by unfold argV; rw [if_pos h], by rw [h]; exact okV_none, fun h' => absurd h h'⟩
            · obtain ⟨h1, h2⟩ := harg s2 nc xc fa2 h (by rw [hargs, if_neg h]; simp) hxc
              exact ⟨xc, h1, h2, fun _ => rfl⟩
          have hv : vAt T inp j = some (opV T.width op xa xb xc) := by
            rw [vAt_op hw htk hf]
            dsimp only
            rw [va, vb, vc]
            show some _ = some _
            rw [opV_need hf eqb eqc]
          have h01 : op = 12 ∨ op = 13 → (xa = 0 ∨ xa = 1) ∧ (xb = 0 ∨ xb = 1) := fun h => by
            rcases formF_cases hf with ⟨h', _⟩ | ⟨h', _⟩ | ⟨h', _⟩ | ⟨h', _⟩ | ⟨_, h'⟩ | ⟨h', _⟩ | ⟨h', _⟩
            · omega
            · omega
            · omega
            · omega
            · simp only [Prod.mk.injEq] at h'
              refine ⟨oka.2 (by omega), ?_⟩
              rw [eqb (by omega)]; exact okb.2 (by omega)
            · omega
            · omega
          have hcx : ∀ (n : Nat) (x : Int), n < T.nodes.length → rvF T inp i j n = x → (wr.alloc (.cells #[.int .i64 op, .int .i64 v, .int .i64 na, .int .i64 nb, .int .i64 nc] 84)).cell? ⟨S, n, none⟩ = some (.int .i64 x) := fun n x hn hx => by
            obtain ⟨y, hy, hc⟩ := (HOWN.out.alloc (.cells #[.int .i64 op, .int .i64 v, .int .i64 na, .int .i64 nb, .int .i64 nc] 84)).cell (by rw [rvL_len]) n hn
            rw [rvL_get hn, hx] at hy
            rw [Option.some.inj hy]; exact hc
          have hca := hcx na xa la hxa
          have hcb := hcx nb xb lb hxb
          have hcc := hcx nc xc lc hxc
          obtain ⟨old, hcS⟩ := HCS.out (.cells #[.int .i64 op, .int .i64 v, .int .i64 na, .int .i64 nb, .int .i64 nc] 84)
          have hfS := HFS.out (.cells #[.int .i64 op, .int .i64 v, .int .i64 na, .int .i64 nb, .int .i64 nc] 84)
          have HV := Lib.hid hv
          have H01 := Lib.hid h01
          have e0 : (op == 0) = false := beq_eq_false_iff_ne.2 (by omega)
          have e1 : (op == 1) = false := beq_eq_false_iff_ne.2 (by omega)
          have e2 : (op == 2) = false := beq_eq_false_iff_ne.2 (by omega)
          have e3 : (op == 3) = false := beq_eq_false_iff_ne.2 (by omega)
          have laI : (na : Int) < (T.nodes.length : Int) := by omega
          have lbI : (nb : Int) < (T.nodes.length : Int) := by omega
          have lcI : (nc : Int) < (T.nodes.length : Int) := by omega
          obtain ⟨ba1, ba2⟩ := ba
          obtain ⟨bb1, bb2⟩ := bb
          have HZR := Lib.hid hz
          clear hxa hxb hxc hfVb harg hargs hs0 va oka vb okb eqb vc okc eqc hv h01 fa0 fa1 fa2 fv hfit htk hf ga1 ga2 gb1 gb2 gc1 gc2 hltN hcx la lb lc
          go_wp2
          have k0 : (wr.alloc (.cells #[.int .i64 op, .int .i64 v, .int .i64 na, .int .i64 nb, .int .i64 nc] 84)).cell? ⟨wr.heap.size, 0, none⟩ = some (.int .i64 op) := z_cell wr _ _ 0
          have k2 : (wr.alloc (.cells #[.int .i64 op, .int .i64 v, .int .i64 na, .int .i64 nb, .int .i64 nc] 84)).cell? ⟨wr.heap.size, 2, none⟩ = some (.int .i64 na) := z_cell wr _ _ 2
          have k3 : (wr.alloc (.cells #[.int .i64 op, .int .i64 v, .int .i64 na, .int .i64 nb, .int .i64 nc] 84)).cell? ⟨wr.heap.size, 3, none⟩ = some (.int .i64 nb) := z_cell wr _ _ 3
          have k4 : (wr.alloc (.cells #[.int .i64 op, .int .i64 v, .int .i64 na, .int .i64 nb, .int .i64 nc] 84)).cell? ⟨wr.heap.size, 4, none⟩ = some (.int .i64 nc) := z_cell wr _ _ 4
          have c0' : (wr.alloc (.cells #[.int .i64 op, .int .i64 v, .int .i64 na, .int .i64 nb, .int .i64 nc] 84)).cell? ⟨w.heap.size, 0, none⟩ = some (.int .i64 T.width) := (World.cell?_alloc_lt wr _ _ hwl).trans c0
          obtain ⟨wq, hwq⟩ : ∃ wq : World, wr.alloc (.cells #[.int .i64 op, .int .i64 v, .int .i64 na, .int .i64 nb, .int .i64 nc] 84) = wq := ⟨_, rfl⟩
          have HUP0 := fun (y : Int) (h : vAt T inp j = some y) (m : Nat) => HUPD.out ((wr.alloc (.cells #[.int .i64 op, .int .i64 v, .int .i64 na, .int .i64 nb, .int .i64 nc] 84)).drewN m) y (below_drewN (HBW.out.trans ((below_alloc _ _).mono (by have := HZR.out; omega))) m) (by have := HZR.out; simp; omega) ((HOWN.out.alloc _).drewN m) h
          have HRES0 := fun m => HUP0 _ HV.out m
          rw [hwq] at k0 k2 k3 k4 c0' hca hcb hcc hcS hfS HRES0 ⊢
          have HRES := Lib.hid HRES0
          clear HUP0 HRES0 hwq n0 n1 n2 n3 n4 c0 c1 hcm
          refine wp_region_G [24, 26] [(3, fun w' => w'.cell? ⟨w.heap.size, 0, none⟩ = some (.int .i64 T.width)), (5, fun w' => w'.cell? ⟨wr.heap.size, 0, none⟩ = some (.int .i64 op)), (9, fun w' => w'.cell? ⟨wr.heap.size, 2, none⟩ = some (.int .i64 na)), (11, fun w' => w'.cell? ⟨S, na, none⟩ = some (.int .i64 xa)), (15, fun w' => w'.cell? ⟨wr.heap.size, 3, none⟩ = some (.int .i64 nb)), (17, fun w' => w'.cell? ⟨S, nb, none⟩ = some (.int .i64 xb)), (21, fun w' => w'.cell? ⟨wr.heap.size, 4, none⟩ = some (.int .i64 nc)), (23, fun w' => w'.cell? ⟨S, nc, none⟩ = some (.int .i64 xc))] (by kernel_rfl) ?_
          refine wpG_take (i := 0) (v := ?_) rfl (by kernel_rfl) rfl (by kernel_rfl) (by kernel_rfl) (fun _ _ _ h => h) (by rfl) ?_ (asks_none rfl _) ?_
          rotate_left
          · intro w _; go_simp; rfl
          simp only [Act.put, List.getElem_toArray, List.getElem_cons_zero, List.getElem_cons_succ, List.setIfInBounds_toArray, List.set_cons_zero, List.set_cons_succ]
          refine wpG_take (i := 1) (v := ?_) rfl (by kernel_rfl) rfl (by kernel_rfl) (by kernel_rfl) (fun _ _ _ h => h) (by rfl) ?_ (asks_none rfl _) ?_
          rotate_left
          · intro w _; go_simp; rfl
          simp only [Act.put, List.getElem_toArray, List.getElem_cons_zero, List.getElem_cons_succ, List.setIfInBounds_toArray, List.set_cons_zero, List.set_cons_succ]
          refine wpG_take (i := 2) (v := ?_) rfl (by kernel_rfl) rfl (by kernel_rfl) (by kernel_rfl) (fun _ _ _ h => h) (by rfl) ?_ (asks_none rfl _) ?_
          rotate_left
          · intro w _; go_simp; rfl
          simp only [Act.put, List.getElem_toArray, List.getElem_cons_zero, List.getElem_cons_succ, List.setIfInBounds_toArray, List.set_cons_zero, List.set_cons_succ]
          refine wpG_take (i := 3) (v := ?_) rfl (by kernel_rfl) rfl (by kernel_rfl) (by kernel_rfl) (fun _ _ _ h => h) (by rfl) ?_ (by simp [asksOf]; exact c0') ?_
          rotate_left
          · intro w hw; simp [asksOf] at hw; go_simp; rfl
          simp only [Act.put, List.getElem_toArray, List.getElem_cons_zero, List.getElem_cons_succ, List.setIfInBounds_toArray, List.set_cons_zero, List.set_cons_succ]
          refine wpG_take (i := 4) (v := ?_) rfl (by kernel_rfl) rfl (by kernel_rfl) (by kernel_rfl) (fun _ _ _ h => h) (by rfl) ?_ (asks_none rfl _) ?_
          rotate_left
          · intro w _; go_simp; rfl
          simp only [Act.put, List.getElem_toArray, List.getElem_cons_zero, List.getElem_cons_succ, List.setIfInBounds_toArray, List.set_cons_zero, List.set_cons_succ]
          refine wpG_take (i := 5) (v := ?_) rfl (by kernel_rfl) rfl (by kernel_rfl) (by kernel_rfl) (fun _ _ _ h => h) (by rfl) ?_ (by simp [asksOf]; exact k0) ?_
          rotate_left
          · intro w hw; simp [asksOf] at hw; go_simp; rfl
          simp only [Act.put, List.getElem_toArray, List.getElem_cons_zero, List.getElem_cons_succ, List.setIfInBounds_toArray, List.set_cons_zero, List.set_cons_succ]
          refine wpG_take (i := 6) (v := ?_) rfl (by kernel_rfl) rfl (by kernel_rfl) (by kernel_rfl) (fun _ _ _ h => h) (by rfl) ?_ (asks_none rfl _) ?_
          rotate_left
          · intro w _; go_simp; rfl
          simp only [Act.put, List.getElem_toArray, List.getElem_cons_zero, List.getElem_cons_succ, List.setIfInBounds_toArray, List.set_cons_zero, List.set_cons_succ]
          refine wpG_take (i := 7) (v := ?_) rfl (by kernel_rfl) rfl (by kernel_rfl) (by kernel_rfl) (fun _ _ _ h => h) (by rfl) ?_ (asks_none rfl _) ?_
          rotate_left
          · intro w _; go_simp; rfl
          simp only [Act.put, List.getElem_toArray, List.getElem_cons_zero, List.getElem_cons_succ, List.setIfInBounds_toArray, List.set_cons_zero, List.set_cons_succ]
          refine wpG_take (i := 8) (v := ?_) rfl (by kernel_rfl) rfl (by kernel_rfl) (by kernel_rfl) (fun _ _ _ h => h) (by rfl) ?_ (asks_none rfl _) ?_
          rotate_left
          · intro w _; go_simp; rfl
          simp only [Act.put, List.getElem_toArray, List.getElem_cons_zero, List.getElem_cons_succ, List.setIfInBounds_toArray, List.set_cons_zero, List.set_cons_succ]
          refine wpG_take (i := 9) (v := ?_) rfl (by kernel_rfl) rfl (by kernel_rfl) (by kernel_rfl) (fun _ _ _ h => h) (by rfl) ?_ (by simp [asksOf]; exact k2) ?_
          rotate_left
          · intro w hw; simp [asksOf] at hw; go_simp; rfl
          simp only [Act.put, List.getElem_toArray, List.getElem_cons_zero, List.getElem_cons_succ, List.setIfInBounds_toArray, List.set_cons_zero, List.set_cons_succ]
          refine wpG_take (i := 10) (v := ?_) rfl (by kernel_rfl) rfl (by kernel_rfl) (by kernel_rfl) (fun _ _ _ h => h) (by rfl) ?_ (asks_none rfl _) ?_
          rotate_left
          · intro w _; go_simp; rfl
          simp only [Act.put, List.getElem_toArray, List.getElem_cons_zero, List.getElem_cons_succ, List.setIfInBounds_toArray, List.set_cons_zero, List.set_cons_succ]
          refine wpG_take (i := 11) (v := ?_) rfl (by kernel_rfl) rfl (by kernel_rfl) (by kernel_rfl) (fun _ _ _ h => h) (by rfl) ?_ (by simp [asksOf]; exact hca) ?_
          rotate_left
          · intro w hw; simp [asksOf] at hw; go_simp; rfl
          simp only [Act.put, List.getElem_toArray, List.getElem_cons_zero, List.getElem_cons_succ, List.setIfInBounds_toArray, List.set_cons_zero, List.set_cons_succ]
          refine wpG_take (i := 12) (v := ?_) rfl (by kernel_rfl) rfl (by kernel_rfl) (by kernel_rfl) (fun _ _ _ h => h) (by rfl) ?_ (asks_none rfl _) ?_
          rotate_left
          · intro w _; go_simp; rfl
          simp only [Act.put, List.getElem_toArray, List.getElem_cons_zero, List.getElem_cons_succ, List.setIfInBounds_toArray, List.set_cons_zero, List.set_cons_succ]
          refine wpG_take (i := 13) (v := ?_) rfl (by kernel_rfl) rfl (by kernel_rfl) (by kernel_rfl) (fun _ _ _ h => h) (by rfl) ?_ (asks_none rfl _) ?_
          rotate_left
          · intro w _; go_simp; rfl
          simp only [Act.put, List.getElem_toArray, List.getElem_cons_zero, List.getElem_cons_succ, List.setIfInBounds_toArray, List.set_cons_zero, List.set_cons_succ]
          refine wpG_take (i := 14) (v := ?_) rfl (by kernel_rfl) rfl (by kernel_rfl) (by kernel_rfl) (fun _ _ _ h => h) (by rfl) ?_ (asks_none rfl _) ?_
          rotate_left
          · intro w _; go_simp; rfl
          simp only [Act.put, List.getElem_toArray, List.getElem_cons_zero, List.getElem_cons_succ, List.setIfInBounds_toArray, List.set_cons_zero, List.set_cons_succ]
          refine wpG_take (i := 15) (v := ?_) rfl (by kernel_rfl) rfl (by kernel_rfl) (by kernel_rfl) (fun _ _ _ h => h) (by rfl) ?_ (by simp [asksOf]; exact k3) ?_
          rotate_left
          · intro w hw; simp [asksOf] at hw; go_simp; rfl
          simp only [Act.put, List.getElem_toArray, List.getElem_cons_zero, List.getElem_cons_succ, List.setIfInBounds_toArray, List.set_cons_zero, List.set_cons_succ]
          refine wpG_take (i := 16) (v := ?_) rfl (by kernel_rfl) rfl (by kernel_rfl) (by kernel_rfl) (fun _ _ _ h => h) (by rfl) ?_ (asks_none rfl _) ?_
          rotate_left
          · intro w _; go_simp; rfl
          simp only [Act.put, List.getElem_toArray, List.getElem_cons_zero, List.getElem_cons_succ, List.setIfInBounds_toArray, List.set_cons_zero, List.set_cons_succ]
          refine wpG_take (i := 17) (v := ?_) rfl (by kernel_rfl) rfl (by kernel_rfl) (by kernel_rfl) (fun _ _ _ h => h) (by rfl) ?_ (by simp [asksOf]; exact hcb) ?_
          rotate_left
          · intro w hw; simp [asksOf] at hw; go_simp; rfl
          simp only [Act.put, List.getElem_toArray, List.getElem_cons_zero, List.getElem_cons_succ, List.setIfInBounds_toArray, List.set_cons_zero, List.set_cons_succ]
          refine wpG_take (i := 18) (v := ?_) rfl (by kernel_rfl) rfl (by kernel_rfl) (by kernel_rfl) (fun _ _ _ h => h) (by rfl) ?_ (asks_none rfl _) ?_
          rotate_left
          · intro w _; go_simp; rfl
          simp only [Act.put, List.getElem_toArray, List.getElem_cons_zero, List.getElem_cons_succ, List.setIfInBounds_toArray, List.set_cons_zero, List.set_cons_succ]
          refine wpG_take (i := 19) (v := ?_) rfl (by kernel_rfl) rfl (by kernel_rfl) (by kernel_rfl) (fun _ _ _ h => h) (by rfl) ?_ (asks_none rfl _) ?_
          rotate_left
          · intro w _; go_simp; rfl
          simp only [Act.put, List.getElem_toArray, List.getElem_cons_zero, List.getElem_cons_succ, List.setIfInBounds_toArray, List.set_cons_zero, List.set_cons_succ]
          refine wpG_take (i := 20) (v := ?_) rfl (by kernel_rfl) rfl (by kernel_rfl) (by kernel_rfl) (fun _ _ _ h => h) (by rfl) ?_ (asks_none rfl _) ?_
          rotate_left
          · intro w _; go_simp; rfl
          simp only [Act.put, List.getElem_toArray, List.getElem_cons_zero, List.getElem_cons_succ, List.setIfInBounds_toArray, List.set_cons_zero, List.set_cons_succ]
          refine wpG_take (i := 21) (v := ?_) rfl (by kernel_rfl) rfl (by kernel_rfl) (by kernel_rfl) (fun _ _ _ h => h) (by rfl) ?_ (by simp [asksOf]; exact k4) ?_
          rotate_left
          · intro w hw; simp [asksOf] at hw; go_simp; rfl
          simp only [Act.put, List.getElem_toArray, List.getElem_cons_zero, List.getElem_cons_succ, List.setIfInBounds_toArray, List.set_cons_zero, List.set_cons_succ]
          refine wpG_take (i := 22) (v := ?_) rfl (by kernel_rfl) rfl (by kernel_rfl) (by kernel_rfl) (fun _ _ _ h => h) (by rfl) ?_ (asks_none rfl _) ?_
          rotate_left
          · intro w _; go_simp; rfl
          simp only [Act.put, List.getElem_toArray, List.getElem_cons_zero, List.getElem_cons_succ, List.setIfInBounds_toArray, List.set_cons_zero, List.set_cons_succ]
          refine wpG_take (i := 23) (v := ?_) rfl (by kernel_rfl) rfl (by kernel_rfl) (by kernel_rfl) (fun _ _ _ h => h) (by rfl) ?_ (by simp [asksOf]; exact hcc) ?_
          rotate_left
          · intro w hw; simp [asksOf] at hw; go_simp; rfl
          simp only [Act.put, List.getElem_toArray, List.getElem_cons_zero, List.getElem_cons_succ, List.setIfInBounds_toArray, List.set_cons_zero, List.set_cons_succ]
          refine wpG_loud (i := 24) rfl rfl rfl (by kernel_rfl) (fun K hK => ?_)
          go_simp
          refine (rapply_any op o1 o2 T.width xa xb xc ba1 ba2 bb1 bb2 H01.out _).mono ?_
          rintro e w9 ⟨rfl, nd, rfl⟩
          refine hK _ _ ?_ ?_
          · intro q hq hwt; simp only [List.mem_cons, List.not_mem_nil, or_false] at hq; rcases hq with rfl | rfl | rfl | rfl | rfl | rfl | rfl | rfl
            · exact Bool.noConfusion (hwt.symm.trans (show _ = true from by kernel_rfl))
            · exact Bool.noConfusion (hwt.symm.trans (show _ = true from by kernel_rfl))
            · exact k2
            · exact Bool.noConfusion (hwt.symm.trans (show _ = true from by kernel_rfl))
            · exact k3
            · exact Bool.noConfusion (hwt.symm.trans (show _ = true from by kernel_rfl))
            · exact k4
            · exact Bool.noConfusion (hwt.symm.trans (show _ = true from by kernel_rfl))
          clear hK K
          try simp only [Act.put, List.getElem_toArray, List.getElem_cons_zero, List.getElem_cons_succ, List.setIfInBounds_toArray, List.set_cons_zero, List.set_cons_succ]
          refine wpG_take (i := 25) (v := ?_) rfl (by kernel_rfl) rfl (by kernel_rfl) (by kernel_rfl) (fun _ _ _ h => h) (by rfl) ?_ (asks_none rfl _) ?_
          rotate_left
          · intro w _; go_simp; rfl
          simp only [Act.put, List.getElem_toArray, List.getElem_cons_zero, List.getElem_cons_succ, List.setIfInBounds_toArray, List.set_cons_zero, List.set_cons_succ]
          refine wpG_loud (i := 26) rfl rfl rfl (by kernel_rfl) (fun K hK => ?_)
          go_simp
          refine hK _ _ ?_ ?_
          · intro q hq hwt; simp only [List.mem_cons, List.not_mem_nil, or_false] at hq; rcases hq with rfl | rfl | rfl | rfl | rfl | rfl | rfl | rfl
            · exact Bool.noConfusion (hwt.symm.trans (show _ = true from by kernel_rfl))
            · exact Bool.noConfusion (hwt.symm.trans (show _ = true from by kernel_rfl))
            · exact Bool.noConfusion (hwt.symm.trans (show _ = true from by kernel_rfl))
            · exact Bool.noConfusion (hwt.symm.trans (show _ = true from by kernel_rfl))
            · exact Bool.noConfusion (hwt.symm.trans (show _ = true from by kernel_rfl))
            · exact Bool.noConfusion (hwt.symm.trans (show _ = true from by kernel_rfl))
            · exact Bool.noConfusion (hwt.symm.trans (show _ = true from by kernel_rfl))
            · exact Bool.noConfusion (hwt.symm.trans (show _ = true from by kernel_rfl))
          clear hK K
          try simp only [Act.put, List.getElem_toArray, List.getElem_cons_zero, List.getElem_cons_succ, List.setIfInBounds_toArray, List.set_cons_zero, List.set_cons_succ]
          refine wpG_done (by kernel_rfl) ?_
          go_wp2
          go_roundw
          case rel => exact ⟨j + 1, by omega, by go_num, HRES.out (1 + nd)⟩
          case measure => simp [intOf]; omega
    · obtain rfl : j = i + 1 := by omega
      have hle : ¬ ((i : Int) + 1 ≤ (i : Int)) := by omega
      have hiI : (i : Int) < (T.nodes.length : Int) := by have := HIL.out; omega
      have hmi := mF_self (i := i) hw
      rcases hv : vAt T inp i with _ | y
      · exact absurd hv (hall i (by omega) hmi)
      · have hfy : rvF T inp i (i + 1) i = y := by unfold rvF; rw [if_pos ⟨by omega, hmi⟩]; unfold fV; rw [hv]; rfl
        obtain ⟨y', hy', hcy⟩ := hown.cell (by rw [rvL_len]) i HIL.out
        rw [rvL_get HIL.out, hfy] at hy'
        cases hy'
        have HRES : Hid (evalF T inp i = (y, 0)) := by show _ = _; rw [HEV.out, hv]
        clear hown hall hbw hbx hmi hv hfy
        go_wp2
        go_ret2
        rw [HRES.out]
        exact ⟨rfl, HWR.out⟩
theorem reval_any (hs : SlT w A c T.nodes) (hw : TWf T) (hin : SlI w w.heap.size A2 c2 inp) (i : Int) :
    Calls Try.prog 74 #[.agg #[.int .i64 T.width, .slice A T.nodes.length c], .int .i64 i, .slice A2 inp.length c2] w (EvRet w (evalF T inp i)) := by
  rcases hn : nodeAt T i with _ | t
  · have : evalF T inp i = (0, 1) := by unfold evalF; rw [hn]
    rw [this]; exact reval_no hs hw (nodeAt_none.1 hn)
  · obtain ⟨k, rfl, hk⟩ := nodeAt_some hn
    exact reval_yes hs hw hin hk
end
end Go.Proofs.Ytgmcajojigedaaa
