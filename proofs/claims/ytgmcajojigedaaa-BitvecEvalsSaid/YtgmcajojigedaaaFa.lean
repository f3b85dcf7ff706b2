/- Words of literals: Equal and Less. -/
import Derived.Test.YtgmcajojigedaaaCa
set_option linter.unusedSimpArgs false
set_option linter.unusedVariables false
namespace Go.Proofs.Ytgmcajojigedaaa
open Go.RowKit

/-- A builder and a literal. -/
structure LitS where
  g : GS
  x : Int
def eqStep (s : LitS) (x y : Int) : LitS :=
  let h := xorF s.g x y
  let a := andF h.1 s.x (notL h.2)
  ⟨a.1, a.2⟩
def eqK (g : GS) (xs ys : List Int) : Nat → LitS
  | 0 => ⟨g, 1⟩
  | k + 1 => eqStep (eqK g xs ys k) (xs.getD k 0) (ys.getD k 0)
def equalF (g : GS) (xs ys : List Int) : LitS := if okW xs ys then eqK g xs ys xs.length else ⟨g, 0⟩
def lessStep (s : LitS) (x y z : Int) : LitS :=
  let h := xorF s.g x y
  let m := muxF h.1 h.2 z s.x
  ⟨m.1, m.2⟩
def lessK (g : GS) (xs ys : List Int) : Nat → LitS
  | 0 => ⟨g, 0⟩
  | k + 1 => lessStep (lessK g xs ys k) (xs.getD k 0) (ys.getD k 0) (if k + 1 = xs.length then xs.getD k 0 else ys.getD k 0)
def lessF (g : GS) (xs ys : List Int) : LitS := if okW xs ys then lessK g xs ys xs.length else ⟨g, 0⟩

theorem eqStep_spec {s : LitS} {x y : Int} (hx : isLit s.g x) (hy : isLit s.g y) (hs : isLit s.g s.x) (hn : s.g.nodes + 4 ≤ 65536) :
    Grew 4 s.g (eqStep s x y).g ∧ isLit (eqStep s x y).g (eqStep s x y).x := by
  have h1 := xorF_spec hx hy (by omega)
  have n1 := h1.1.nodes
  have h2 := andF_spec (h1.1.lit hs) h1.2.notL (by omega)
  exact ⟨h1.1.trans h2.1, h2.2⟩
theorem eqK_spec {g : GS} {xs ys : List Int} (hx : areLit g xs) (hy : areLit g ys) : ∀ k : Nat, g.nodes + 4 * k ≤ 65536 → Grew (4 * k) g (eqK g xs ys k).g ∧ isLit (eqK g xs ys k).g (eqK g xs ys k).x
  | 0, _ => ⟨Grew.refl _ _, lit_one g⟩
  | k + 1, hn => by
    obtain ⟨h1, h2⟩ := eqK_spec hx hy k (by omega)
    have n1 := h1.nodes
    obtain ⟨k1, k2⟩ := eqStep_spec (s := eqK g xs ys k) (h1.lit (hx.getD k)) (h1.lit (hy.getD k)) h2 (by omega)
    exact ⟨h1.trans k1, k2⟩
theorem lessStep_spec {s : LitS} {x y z : Int} (hx : isLit s.g x) (hy : isLit s.g y) (hz : isLit s.g z) (hs : isLit s.g s.x) (hn : s.g.nodes + 6 ≤ 65536) :
    Grew 6 s.g (lessStep s x y z).g ∧ isLit (lessStep s x y z).g (lessStep s x y z).x := by
  have h1 := xorF_spec hx hy (by omega)
  have n1 := h1.1.nodes
  have h2 := muxF_spec h1.2 (h1.1.lit hz) (h1.1.lit hs) (by omega)
  exact ⟨h1.1.trans h2.1, h2.2⟩
theorem lessK_spec {g : GS} {xs ys : List Int} (hx : areLit g xs) (hy : areLit g ys) : ∀ k : Nat, g.nodes + 6 * k ≤ 65536 → Grew (6 * k) g (lessK g xs ys k).g ∧ isLit (lessK g xs ys k).g (lessK g xs ys k).x
  | 0, _ => ⟨Grew.refl _ _, lit_zero g⟩
  | k + 1, hn => by
    obtain ⟨h1, h2⟩ := lessK_spec hx hy k (by omega)
    have n1 := h1.nodes
    obtain ⟨k1, k2⟩ := lessStep_spec (s := lessK g xs ys k) (z := if k + 1 = xs.length then xs.getD k 0 else ys.getD k 0) (h1.lit (hx.getD k)) (h1.lit (hy.getD k)) (if h : k + 1 = xs.length then by rw [if_pos h]; exact h1.lit (hx.getD k) else by rw [if_neg h]; exact h1.lit (hy.getD k)) h2 (by omega)
    exact ⟨h1.trans k1, k2⟩
section
variable {B0 p m : Nat} {A A1 A2 : Option Addr} {c c1 c2 : Nat} {g : GS} {xs ys : List Int} {w : World}

set_option maxHeartbeats 4000000 in
theorem equal_any (hB : B0 ≤ w.heap.size) (hb : Bd B0 w p m A c g) (hw : GWf g) (hn : g.nodes + 81 ≤ 65536) (hxl : areLit g xs) (hyl : areLit g ys) (h1 : SlI w B0 A1 c1 xs) (h2 : SlI w B0 A2 c2 ys) :
    Calls Try.prog 44 #[.pointer (some ⟨p, 0, none⟩), .slice A1 xs.length c1, .slice A2 ys.length c2] w (GRet B0 p m w (equalF g xs ys).g (equalF g xs ys).x) := by
  have HB := Lib.hid hb
  have H1 := Lib.hid h1
  have H2 := Lib.hid h2
  by_cases h : okW xs ys
  · have hok := okW_yes h
    have e : Hid (equalF g xs ys = eqK g xs ys xs.length) := if_pos h
    have HL := Lib.hid h
    have hx8 : xs.length ≤ 8 := h.2.1
    have hx1 : 1 ≤ xs.length := h.1
    have HXL := Lib.hid hxl
    have HYL := Lib.hid hyl
    have HW := Lib.hid hw
    have hy9 := h2.big
    have hlen : Hid (ys.length = xs.length) := h.2.2
    clear hb h1 h2 h hxl hyl hw
    go_enter Try.func44, Try.ntmps44
    go_wp2_with (go_at_call 102; refine (words_any [xs, ys] _ 2 B0 _ (slw_two H1.out H2.out) (by simp) (by simp)).mono ?_; rintro e w' ⟨rfl, rfl⟩)
    obtain ⟨W0, hW0⟩ : ∃ W0 : World, w.alloc (.cells #[.slice A1 xs.length c1, .slice A2 ys.length c2] 24) = W0 := ⟨_, rfl⟩
    have F0 : Hid (Fr B0 [116, 123] [m] w W0) := by rw [← hW0]; exact Fr.of_below (below_alloc _ _)
    have BD0 : Hid (Bd B0 W0 p m A c g) := by rw [← hW0]; exact HB.out.below (below_alloc _ _)
    rw [hW0]
    clear hW0
    go_loopw [7, 8, 16] (fun u _ i wr => ∃ j : Nat, u = .int .i64 (eqK g xs ys j).x ∧ j ≤ xs.length ∧ i = .int .i64 j ∧ (∃ A' c', Bd B0 wr p m A' c' (eqK g xs ys j).g) ∧ Fr B0 [116, 123] [m] w wr) (fun _ _ i _ => xs.length - (intOf i).toNat)
    case atStart => exact ⟨0, rfl, Nat.zero_le _, rfl, ⟨A, c, BD0.out⟩, F0.out⟩
    case round =>
      obtain ⟨j, rfl, hj, rfl, ⟨A', c', hbd⟩, hfr⟩ := hrel
      by_cases hlt : j < xs.length
      · obtain ⟨b1, o1, x, rfl, hx, hcx⟩ := (H1.out.fr hfr (by decide)).at_ hlt
        obtain ⟨b2, o2, y, rfl, hy, hcy⟩ := (H2.out.fr hfr (by decide)).at_ (k := j) (by have := hlen.out; omega)
        have hltI : (j : Int) < (xs.length : Int) := by omega
        have hlt2 : (j : Int) < (ys.length : Int) := by have := hlen.out; omega
        have HS := Lib.hid (eqK_spec HXL.out HYL.out j (by omega))
        have hx' : Hid (xs.getD j 0 = x) := getD_of hx
        have hy' : Hid (ys.getD j 0 = y) := getD_of hy
        have hlx : Hid (isLit g x) := by have := HXL.out.getD j; rwa [hx'.out] at this
        have hly : Hid (isLit g y) := by have := HYL.out.getD j; rwa [hy'.out] at this
        have hbw := Lib.hid (hfr.size)
        have HBD := Lib.hid hbd
        have HFR := Lib.hid hfr
        have hnn : Hid ((eqK g xs ys j).g.nodes + 4 ≤ 65536) := by show _ ≤ _; have := HS.out.1.nodes; omega
        have HXJ := Lib.hid hx
        have HYJ := Lib.hid hy
        have hnext : Hid (eqK g xs ys (j + 1) = eqStep (eqK g xs ys j) x y) := by
          show _ = _; rw [eqK, hx'.out, hy'.out]
        clear hx hy hbd hfr
        generalize hST : eqK g xs ys j = st at HS hnext HBD hnn ⊢
        clear hST
        have LX := Lib.hid (HS.out.1.lit hlx.out)
        have LY := Lib.hid (HS.out.1.lit hly.out)
        have S1 := xorF_spec LX.out LY.out (by have := hnn.out; omega)
        obtain ⟨h, e1⟩ : ∃ h, xorF st.g x y = h := ⟨_, rfl⟩
        rw [e1] at S1
        have N1 : h.1.nodes ≤ st.g.nodes + 3 := S1.1.nodes.2
        have S2 := andF_spec (S1.1.lit HS.out.2) S1.2.notL (by have := hnn.out; omega)
        obtain ⟨a, e2⟩ : ∃ a, andF h.1 st.x (notL h.2) = a := ⟨_, rfl⟩
        rw [e2] at S2
        have hst2 : eqStep st x y = ⟨a.1, a.2⟩ := by unfold eqStep; simp only [e1, e2]
        rw [hst2] at hnext
        have hb0 : Hid (0 ≤ h.2 ∧ h.2 < 9223372036854775807) := by show _ ∧ _; have := S1.2.1; have := S1.2.2; have := hnn.out; omega
        have E1 := Lib.hid e1
        have E2 := Lib.hid e2
        have S1' := Lib.hid S1
        have M0 : Hid (st.g.nodes + 2 < 65536) := by show _ < _; have := hnn.out; omega
        have M1 : Hid (h.1.nodes < 65536) := by show _ < _; have := hnn.out; omega
        clear e1 e2 S1 S2 N1 hst2
        go_wp2
        refine wp_region_G [11, 12, 13] [(6, fun w' => w'.cell? ⟨b1, o1 + j, none⟩ = some (.int .i64 x)), (10, fun w' => w'.cell? ⟨b2, o2 + j, none⟩ = some (.int .i64 y))] (by kernel_rfl) ?_
        refine wpG_take (i := 0) (v := ?_) rfl (by kernel_rfl) rfl (by kernel_rfl) (by kernel_rfl) (fun _ _ _ h => h) (by rfl) ?_ (asks_none rfl _) ?_
        rotate_left
        · intro w _; go_simp; rfl
        simp only [Act.put, List.getElem_toArray, List.getElem_cons_zero, List.getElem_cons_succ, List.setIfInBounds_toArray, List.set_cons_zero, List.set_cons_succ]
        refine wpG_take (i := 1) (v := ?_) rfl (by kernel_rfl) rfl (by kernel_rfl) (by kernel_rfl) (fun _ _ _ h => h) (by rfl) ?_ (asks_none rfl _) ?_
        rotate_left
        · intro w _; go_simp; rfl
        simp only [Act.put, List.getElem_toArray, List.getElem_cons_zero, List.getElem_cons_succ, List.setIfInBounds_toArray, List.set_cons_zero, List.set_cons_succ]
        refine wpG_take (i := 2) (v := ?_) rfl (by kernel_rfl) rfl (by kernel_rfl) (by kernel_rfl) (fun _ _ _ h => h) (by rfl) ?_ (asks_none rfl _) ?_
        rotate_left
        · intro w _; go_simp; rfl
        simp only [Act.put, List.getElem_toArray, List.getElem_cons_zero, List.getElem_cons_succ, List.setIfInBounds_toArray, List.set_cons_zero, List.set_cons_succ]
        refine wpG_take (i := 3) (v := ?_) rfl (by kernel_rfl) rfl (by kernel_rfl) (by kernel_rfl) (fun _ _ _ h => h) (by rfl) ?_ (asks_none rfl _) ?_
        rotate_left
        · intro w _; go_simp; rfl
        simp only [Act.put, List.getElem_toArray, List.getElem_cons_zero, List.getElem_cons_succ, List.setIfInBounds_toArray, List.set_cons_zero, List.set_cons_succ]
        refine wpG_take (i := 4) (v := ?_) rfl (by kernel_rfl) rfl (by kernel_rfl) (by kernel_rfl) (fun _ _ _ h => h) (by rfl) ?_ (asks_none rfl _) ?_
        rotate_left
        · intro w _; go_simp; rfl
        simp only [Act.put, List.getElem_toArray, List.getElem_cons_zero, List.getElem_cons_succ, List.setIfInBounds_toArray, List.set_cons_zero, List.set_cons_succ]
        refine wpG_take (i := 5) (v := ?_) rfl (by kernel_rfl) rfl (by kernel_rfl) (by kernel_rfl) (fun _ _ _ h => h) (by rfl) ?_ (asks_none rfl _) ?_
        rotate_left
        · intro w _; go_simp; rfl
        simp only [Act.put, List.getElem_toArray, List.getElem_cons_zero, List.getElem_cons_succ, List.setIfInBounds_toArray, List.set_cons_zero, List.set_cons_succ]
        refine wpG_take (i := 6) (v := ?_) rfl (by kernel_rfl) rfl (by kernel_rfl) (by kernel_rfl) (fun _ _ _ h => h) (by rfl) ?_ (by simp [asksOf]; exact hcx) ?_
        rotate_left
        · intro w hw; simp [asksOf] at hw; go_simp; rfl
        simp only [Act.put, List.getElem_toArray, List.getElem_cons_zero, List.getElem_cons_succ, List.setIfInBounds_toArray, List.set_cons_zero, List.set_cons_succ]
        refine wpG_take (i := 7) (v := ?_) rfl (by kernel_rfl) rfl (by kernel_rfl) (by kernel_rfl) (fun _ _ _ h => h) (by rfl) ?_ (asks_none rfl _) ?_
        rotate_left
        · intro w _; go_simp; rfl
        simp only [Act.put, List.getElem_toArray, List.getElem_cons_zero, List.getElem_cons_succ, List.setIfInBounds_toArray, List.set_cons_zero, List.set_cons_succ]
        refine wpG_take (i := 8) (v := ?_) rfl (by kernel_rfl) rfl (by kernel_rfl) (by kernel_rfl) (fun _ _ _ h => h) (by rfl) ?_ (asks_none rfl _) ?_
        rotate_left
        · intro w _; go_simp; rfl
        simp only [Act.put, List.getElem_toArray, List.getElem_cons_zero, List.getElem_cons_succ, List.setIfInBounds_toArray, List.set_cons_zero, List.set_cons_succ]
        refine wpG_take (i := 9) (v := ?_) rfl (by kernel_rfl) rfl (by kernel_rfl) (by kernel_rfl) (fun _ _ _ h => h) (by rfl) ?_ (asks_none rfl _) ?_
        rotate_left
        · intro w _; go_simp; rfl
        simp only [Act.put, List.getElem_toArray, List.getElem_cons_zero, List.getElem_cons_succ, List.setIfInBounds_toArray, List.set_cons_zero, List.set_cons_succ]
        refine wpG_take (i := 10) (v := ?_) rfl (by kernel_rfl) rfl (by kernel_rfl) (by kernel_rfl) (fun _ _ _ h => h) (by rfl) ?_ (by simp [asksOf]; exact hcy) ?_
        rotate_left
        · intro w hw; simp [asksOf] at hw; go_simp; rfl
        simp only [Act.put, List.getElem_toArray, List.getElem_cons_zero, List.getElem_cons_succ, List.setIfInBounds_toArray, List.set_cons_zero, List.set_cons_succ]
        refine wpG_loud (i := 11) rfl rfl rfl (by kernel_rfl) (fun K hK => ?_)
        go_simp
        refine (xor_any B0 p m A' c' st.g x y wr.drew (Nat.le_trans hB hbw.out) (HBD.out.drewN 1) M0.out (HS.out.1.wf HW.out) LX.out LY.out).mono ?_
        rintro e w2 ⟨A2', c2', rfl, hbd2, hf2⟩
        rw [E1.out] at hbd2 ⊢
        have hf02 := HFR.out.drew.trans hf2
        have hcx2 := (H1.out.fr hf02 (by decide)).cell HXJ.out
        have hcy2 := (H2.out.fr hf02 (by decide)).cell HYJ.out
        have HF02 := Lib.hid hf02
        have HBD2 := Lib.hid hbd2
        clear hf02 hbd2 hf2 hcx hcy
        refine hK _ _ ?_ ?_
        · intro q hq hwt; simp only [List.mem_cons, List.not_mem_nil, or_false] at hq; rcases hq with rfl | rfl
          · exact Bool.noConfusion (hwt.symm.trans (show _ = true from by kernel_rfl))
          · exact Bool.noConfusion (hwt.symm.trans (show _ = true from by kernel_rfl))
        clear hK K
        try simp only [Act.put, List.getElem_toArray, List.getElem_cons_zero, List.getElem_cons_succ, List.setIfInBounds_toArray, List.set_cons_zero, List.set_cons_succ]
        refine wpG_loud (i := 12) rfl rfl rfl (by kernel_rfl) (fun K hK => ?_)
        go_simp
        refine (not_any _ _ hb0.out.1 hb0.out.2).mono ?_
        rintro e w' ⟨rfl, rfl⟩
        refine hK _ _ ?_ ?_
        · intro q hq hwt; simp only [List.mem_cons, List.not_mem_nil, or_false] at hq; rcases hq with rfl | rfl
          · exact hcx2
          · exact hcy2
        clear hK K
        try simp only [Act.put, List.getElem_toArray, List.getElem_cons_zero, List.getElem_cons_succ, List.setIfInBounds_toArray, List.set_cons_zero, List.set_cons_succ]
        refine wpG_loud (i := 13) rfl rfl rfl (by kernel_rfl) (fun K hK => ?_)
        go_simp
        refine (and_any B0 p m A2' c2' h.1 st.x (notL h.2) w2 (Nat.le_trans hB HF02.out.size) HBD2.out M1.out (S1'.out.1.wf (HS.out.1.wf HW.out)) (S1'.out.1.lit HS.out.2) S1'.out.2.notL).mono ?_
        rintro e w3 ⟨A3', c3', rfl, hbd3, hf3⟩
        rw [E2.out] at hbd3 ⊢
        have hf03 := HF02.out.trans hf3
        have hcx3 := (H1.out.fr hf03 (by decide)).cell HXJ.out
        have hcy3 := (H2.out.fr hf03 (by decide)).cell HYJ.out
        have HF03 := Lib.hid hf03
        have HBD3 := Lib.hid hbd3
        clear hf03 hbd3 hf3 hcx2 hcy2
        refine hK _ _ ?_ ?_
        · intro q hq hwt; simp only [List.mem_cons, List.not_mem_nil, or_false] at hq; rcases hq with rfl | rfl
          · exact hcx3
          · exact hcy3
        clear hK K
        try simp only [Act.put, List.getElem_toArray, List.getElem_cons_zero, List.getElem_cons_succ, List.setIfInBounds_toArray, List.set_cons_zero, List.set_cons_succ]
        refine wpG_take (i := 14) (v := ?_) rfl (by kernel_rfl) rfl (by kernel_rfl) (by kernel_rfl) (fun _ _ _ h => h) (by rfl) ?_ (asks_none rfl _) ?_
        rotate_left
        · intro w _; go_simp; rfl
        simp only [Act.put, List.getElem_toArray, List.getElem_cons_zero, List.getElem_cons_succ, List.setIfInBounds_toArray, List.set_cons_zero, List.set_cons_succ]
        refine wpG_done (by kernel_rfl) ?_
        go_wp2_with fail
        go_roundw
        case rel =>
          refine ⟨j + 1, ?_⟩
          rw [hnext.out]
          exact ⟨rfl, by omega, by go_num, ⟨_, _, HBD3.out⟩, HF03.out⟩
        case measure => simp [intOf]; omega
      · obtain rfl : j = xs.length := by omega
        go_wp2
        go_ret
        exact ⟨A', c', by first | (rw [e.out]; done) | (rw [e.out]; rfl), by rw [e.out]; exact hbd, hfr⟩
  · have hok := okW_no h
    have e : Hid (equalF g xs ys = ⟨g, 0⟩) := if_neg h
    clear hb h1 h2 h hxl hyl hw
    go_enter Try.func44, Try.ntmps44
    go_wp2_with (go_at_call 102; refine (words_any [xs, ys] _ 2 B0 _ (slw_two H1.out H2.out) (by simp) (by simp)).mono ?_; rintro e w' ⟨rfl, rfl⟩)
    go_ret
    refine ⟨A, c, ?_, ?_, Fr.of_below (below_alloc _ _)⟩
    · rw [e.out]; rfl
    · rw [e.out]; exact HB.out.below (below_alloc _ _)

set_option maxHeartbeats 4000000 in
theorem less_any (hB : B0 ≤ w.heap.size) (hb : Bd B0 w p m A c g) (hw : GWf g) (hn : g.nodes + 81 ≤ 65536) (hxl : areLit g xs) (hyl : areLit g ys) (h1 : SlI w B0 A1 c1 xs) (h2 : SlI w B0 A2 c2 ys) :
    Calls Try.prog 45 #[.pointer (some ⟨p, 0, none⟩), .slice A1 xs.length c1, .slice A2 ys.length c2] w (GRet B0 p m w (lessF g xs ys).g (lessF g xs ys).x) := by
  have HB := Lib.hid hb
  have H1 := Lib.hid h1
  have H2 := Lib.hid h2
  by_cases h : okW xs ys
  · have hok := okW_yes h
    have e : Hid (lessF g xs ys = lessK g xs ys xs.length) := if_pos h
    have HL := Lib.hid h
    have hx8 : xs.length ≤ 8 := h.2.1
    have hx1 : 1 ≤ xs.length := h.1
    have HXL := Lib.hid hxl
    have HYL := Lib.hid hyl
    have HW := Lib.hid hw
    have hy9 := h2.big
    have hlen : Hid (ys.length = xs.length) := h.2.2
    clear hb h1 h2 h hxl hyl hw
    go_enter Try.func45, Try.ntmps45
    go_wp2_with (go_at_call 102; refine (words_any [xs, ys] _ 2 B0 _ (slw_two H1.out H2.out) (by simp) (by simp)).mono ?_; rintro e w' ⟨rfl, rfl⟩)
    obtain ⟨W0, hW0⟩ : ∃ W0 : World, w.alloc (.cells #[.slice A1 xs.length c1, .slice A2 ys.length c2] 24) = W0 := ⟨_, rfl⟩
    have F0 : Hid (Fr B0 [116, 123] [m] w W0) := by rw [← hW0]; exact Fr.of_below (below_alloc _ _)
    have BD0 : Hid (Bd B0 W0 p m A c g) := by rw [← hW0]; exact HB.out.below (below_alloc _ _)
    rw [hW0]
    clear hW0
    go_loopw [7, 8, 9, 17] (fun u _ _ i wr => ∃ j : Nat, u = .int .i64 (lessK g xs ys j).x ∧ j ≤ xs.length ∧ i = .int .i64 j ∧ (∃ A' c', Bd B0 wr p m A' c' (lessK g xs ys j).g) ∧ Fr B0 [116, 123] [m] w wr) (fun _ _ _ i _ => xs.length - (intOf i).toNat)
    case atStart => exact ⟨0, rfl, Nat.zero_le _, rfl, ⟨A, c, BD0.out⟩, F0.out⟩
    case round =>
      obtain ⟨j, rfl, hj, rfl, ⟨A', c', hbd⟩, hfr⟩ := hrel
      by_cases hlt : j < xs.length
      · obtain ⟨b1, o1, x, rfl, hx, hcx⟩ := (H1.out.fr hfr (by decide)).at_ hlt
        obtain ⟨b2, o2, y, rfl, hy, hcy⟩ := (H2.out.fr hfr (by decide)).at_ (k := j) (by have := hlen.out; omega)
        have hltI : (j : Int) < (xs.length : Int) := by omega
        have hlt2 : (j : Int) < (ys.length : Int) := by have := hlen.out; omega
        have HS := Lib.hid (lessK_spec HXL.out HYL.out j (by omega))
        have hx' : Hid (xs.getD j 0 = x) := getD_of hx
        have hy' : Hid (ys.getD j 0 = y) := getD_of hy
        have hlx : Hid (isLit g x) := by have := HXL.out.getD j; rwa [hx'.out] at this
        have hly : Hid (isLit g y) := by have := HYL.out.getD j; rwa [hy'.out] at this
        have hbw := Lib.hid (hfr.size)
        have HBD := Lib.hid hbd
        have HFR := Lib.hid hfr
        have hnn : Hid ((lessK g xs ys j).g.nodes + 6 ≤ 65536) := by show _ ≤ _; have := HS.out.1.nodes; omega
        have HXJ := Lib.hid hx
        have HYJ := Lib.hid hy
        have hnext : Hid (lessK g xs ys (j + 1) = lessStep (lessK g xs ys j) x y (if j + 1 = xs.length then x else y)) := by
          show _ = _; rw [lessK, hx'.out, hy'.out]
        clear hx hy hbd hfr
        generalize hST : lessK g xs ys j = st at HS hnext HBD hnn ⊢
        clear hST
        have LX := Lib.hid (HS.out.1.lit hlx.out)
        have LY := Lib.hid (HS.out.1.lit hly.out)
        have hZ : ∃ z, (if j + 1 = xs.length then x else y) = z ∧ ((z = x ∧ j + 1 = xs.length) ∨ (z = y ∧ j + 1 ≠ xs.length)) := by
          by_cases hj1 : j + 1 = xs.length
          · exact ⟨x, if_pos hj1, .inl ⟨rfl, hj1⟩⟩
          · exact ⟨y, if_neg hj1, .inr ⟨rfl, hj1⟩⟩
        obtain ⟨z, hz1, hz2⟩ := hZ
        rw [hz1] at hnext
        clear hz1
        have LZ : Hid (isLit st.g z) := hz2.elim (fun h => by rw [h.1]; exact LX.out) (fun h => by rw [h.1]; exact LY.out)
        have S1 := xorF_spec LX.out LY.out (by have := hnn.out; omega)
        obtain ⟨h, e1⟩ : ∃ h, xorF st.g x y = h := ⟨_, rfl⟩
        rw [e1] at S1
        have N1 : h.1.nodes ≤ st.g.nodes + 3 := S1.1.nodes.2
        obtain ⟨a, e2⟩ : ∃ a, muxF h.1 h.2 z st.x = a := ⟨_, rfl⟩
        have hst2 : lessStep st x y z = ⟨a.1, a.2⟩ := by unfold lessStep; simp only [e1, e2]
        rw [hst2] at hnext
        have E1 := Lib.hid e1
        have E2 := Lib.hid e2
        have S1' := Lib.hid S1
        have M0 : Hid (st.g.nodes + 2 < 65536) := by show _ < _; have := hnn.out; omega
        have M1 : Hid (h.1.nodes + 2 < 65536) := by show _ < _; have := hnn.out; omega
        clear e1 e2 S1 N1 hst2
        rcases hz2 with ⟨rfl, hj1⟩ | ⟨rfl, hj1⟩
        · have hd : ((j : Int) == (xs.length : Int) - 1) = true := by rw [beq_iff_eq]; omega
          have HJ1 := Lib.hid hj1
          clear hj1
          go_wp2
          refine wp_region_G [10, 13] [(5, fun w' => w'.cell? ⟨b1, o1 + j, none⟩ = some (.int .i64 z)), (9, fun w' => w'.cell? ⟨b2, o2 + j, none⟩ = some (.int .i64 y))] (by kernel_rfl) ?_
          refine wpG_take (i := 0) (v := ?_) rfl (by kernel_rfl) rfl (by kernel_rfl) (by kernel_rfl) (fun _ _ _ h => h) (by rfl) ?_ (asks_none rfl _) ?_
          rotate_left
          · intro w _; go_simp; rfl
          simp only [Act.put, List.getElem_toArray, List.getElem_cons_zero, List.getElem_cons_succ, List.setIfInBounds_toArray, List.set_cons_zero, List.set_cons_succ]
          refine wpG_take (i := 1) (v := ?_) rfl (by kernel_rfl) rfl (by kernel_rfl) (by kernel_rfl) (fun _ _ _ h => h) (by rfl) ?_ (asks_none rfl _) ?_
          rotate_left
          · intro w _; go_simp; rfl
          simp only [Act.put, List.getElem_toArray, List.getElem_cons_zero, List.getElem_cons_succ, List.setIfInBounds_toArray, List.set_cons_zero, List.set_cons_succ]
          refine wpG_take (i := 2) (v := ?_) rfl (by kernel_rfl) rfl (by kernel_rfl) (by kernel_rfl) (fun _ _ _ h => h) (by rfl) ?_ (asks_none rfl _) ?_
          rotate_left
          · intro w _; go_simp; rfl
          simp only [Act.put, List.getElem_toArray, List.getElem_cons_zero, List.getElem_cons_succ, List.setIfInBounds_toArray, List.set_cons_zero, List.set_cons_succ]
          refine wpG_take (i := 3) (v := ?_) rfl (by kernel_rfl) rfl (by kernel_rfl) (by kernel_rfl) (fun _ _ _ h => h) (by rfl) ?_ (asks_none rfl _) ?_
          rotate_left
          · intro w _; go_simp; rfl
          simp only [Act.put, List.getElem_toArray, List.getElem_cons_zero, List.getElem_cons_succ, List.setIfInBounds_toArray, List.set_cons_zero, List.set_cons_succ]
          refine wpG_take (i := 4) (v := ?_) rfl (by kernel_rfl) rfl (by kernel_rfl) (by kernel_rfl) (fun _ _ _ h => h) (by rfl) ?_ (asks_none rfl _) ?_
          rotate_left
          · intro w _; go_simp; rfl
          simp only [Act.put, List.getElem_toArray, List.getElem_cons_zero, List.getElem_cons_succ, List.setIfInBounds_toArray, List.set_cons_zero, List.set_cons_succ]
          refine wpG_take (i := 5) (v := ?_) rfl (by kernel_rfl) rfl (by kernel_rfl) (by kernel_rfl) (fun _ _ _ h => h) (by rfl) ?_ (by simp [asksOf]; exact hcx) ?_
          rotate_left
          · intro w hw; simp [asksOf] at hw; go_simp; rfl
          simp only [Act.put, List.getElem_toArray, List.getElem_cons_zero, List.getElem_cons_succ, List.setIfInBounds_toArray, List.set_cons_zero, List.set_cons_succ]
          refine wpG_take (i := 6) (v := ?_) rfl (by kernel_rfl) rfl (by kernel_rfl) (by kernel_rfl) (fun _ _ _ h => h) (by rfl) ?_ (asks_none rfl _) ?_
          rotate_left
          · intro w _; go_simp; rfl
          simp only [Act.put, List.getElem_toArray, List.getElem_cons_zero, List.getElem_cons_succ, List.setIfInBounds_toArray, List.set_cons_zero, List.set_cons_succ]
          refine wpG_take (i := 7) (v := ?_) rfl (by kernel_rfl) rfl (by kernel_rfl) (by kernel_rfl) (fun _ _ _ h => h) (by rfl) ?_ (asks_none rfl _) ?_
          rotate_left
          · intro w _; go_simp; rfl
          simp only [Act.put, List.getElem_toArray, List.getElem_cons_zero, List.getElem_cons_succ, List.setIfInBounds_toArray, List.set_cons_zero, List.set_cons_succ]
          refine wpG_take (i := 8) (v := ?_) rfl (by kernel_rfl) rfl (by kernel_rfl) (by kernel_rfl) (fun _ _ _ h => h) (by rfl) ?_ (asks_none rfl _) ?_
          rotate_left
          · intro w _; go_simp; rfl
          simp only [Act.put, List.getElem_toArray, List.getElem_cons_zero, List.getElem_cons_succ, List.setIfInBounds_toArray, List.set_cons_zero, List.set_cons_succ]
          refine wpG_take (i := 9) (v := ?_) rfl (by kernel_rfl) rfl (by kernel_rfl) (by kernel_rfl) (fun _ _ _ h => h) (by rfl) ?_ (by simp [asksOf]; exact hcy) ?_
          rotate_left
          · intro w hw; simp [asksOf] at hw; go_simp; rfl
          simp only [Act.put, List.getElem_toArray, List.getElem_cons_zero, List.getElem_cons_succ, List.setIfInBounds_toArray, List.set_cons_zero, List.set_cons_succ]
          refine wpG_take (i := 11) (v := ?_) rfl (by kernel_rfl) rfl (by kernel_rfl) (by kernel_rfl) (fun _ _ _ h => h) (by rfl) ?_ (asks_none rfl _) ?_
          rotate_left
          · intro w _; go_simp; rfl
          simp only [Act.put, List.getElem_toArray, List.getElem_cons_zero, List.getElem_cons_succ, List.setIfInBounds_toArray, List.set_cons_zero, List.set_cons_succ]
          refine wpG_take (i := 12) (v := ?_) rfl (by kernel_rfl) rfl (by kernel_rfl) (by kernel_rfl) (fun _ _ _ h => h) (by rfl) ?_ (asks_none rfl _) ?_
          rotate_left
          · intro w _; go_simp; rfl
          simp only [Act.put, List.getElem_toArray, List.getElem_cons_zero, List.getElem_cons_succ, List.setIfInBounds_toArray, List.set_cons_zero, List.set_cons_succ]
          refine wpG_loud (i := 10) rfl rfl rfl (by kernel_rfl) (fun K hK => ?_)
          go_simp
          refine (xor_any B0 p m A' c' st.g z y wr.drew (Nat.le_trans hB hbw.out) (HBD.out.drewN 1) M0.out (HS.out.1.wf HW.out) LX.out LY.out).mono ?_
          rintro e w2 ⟨A2', c2', rfl, hbd2, hf2⟩
          rw [E1.out] at hbd2 ⊢
          have hf02 := HFR.out.drew.trans hf2
          have hcx2 := (H1.out.fr hf02 (by decide)).cell HXJ.out
          have hcy2 := (H2.out.fr hf02 (by decide)).cell HYJ.out
          have HF02 := Lib.hid hf02
          have HBD2 := Lib.hid hbd2
          clear hf02 hbd2 hf2 hcx hcy
          refine hK _ _ ?_ ?_
          · intro q hq hwt; simp only [List.mem_cons, List.not_mem_nil, or_false] at hq; rcases hq with rfl | rfl
            · exact Bool.noConfusion (hwt.symm.trans (show _ = true from by kernel_rfl))
            · exact Bool.noConfusion (hwt.symm.trans (show _ = true from by kernel_rfl))
          clear hK K
          try simp only [Act.put, List.getElem_toArray, List.getElem_cons_zero, List.getElem_cons_succ, List.setIfInBounds_toArray, List.set_cons_zero, List.set_cons_succ]
          refine wpG_loud (i := 13) rfl rfl rfl (by kernel_rfl) (fun K hK => ?_)
          go_simp
          refine (mux_any B0 p m A2' c2' h.1 h.2 z st.x w2 (Nat.le_trans hB HF02.out.size) HBD2.out M1.out (S1'.out.1.wf (HS.out.1.wf HW.out)) S1'.out.2 (S1'.out.1.lit LZ.out) (S1'.out.1.lit HS.out.2)).mono ?_
          rintro e w3 ⟨A3', c3', rfl, hbd3, hf3⟩
          rw [E2.out] at hbd3 ⊢
          have hf03 := HF02.out.trans hf3
          have hcx3 := (H1.out.fr hf03 (by decide)).cell HXJ.out
          have hcy3 := (H2.out.fr hf03 (by decide)).cell HYJ.out
          have HF03 := Lib.hid hf03
          have HBD3 := Lib.hid hbd3
          clear hf03 hbd3 hf3 hcx2 hcy2
          refine hK _ _ ?_ ?_
          · intro q hq hwt; simp only [List.mem_cons, List.not_mem_nil, or_false] at hq; rcases hq with rfl | rfl
            · exact hcx3
            · exact hcy3
          clear hK K
          try simp only [Act.put, List.getElem_toArray, List.getElem_cons_zero, List.getElem_cons_succ, List.setIfInBounds_toArray, List.set_cons_zero, List.set_cons_succ]
          refine wpG_take (i := 14) (v := ?_) rfl (by kernel_rfl) rfl (by kernel_rfl) (by kernel_rfl) (fun _ _ _ h => h) (by rfl) ?_ (asks_none rfl _) ?_
          rotate_left
          · intro w _; go_simp; rfl
          simp only [Act.put, List.getElem_toArray, List.getElem_cons_zero, List.getElem_cons_succ, List.setIfInBounds_toArray, List.set_cons_zero, List.set_cons_succ]
          refine wpG_done (by kernel_rfl) ?_
          go_wp2_with fail
          go_roundw
          case rel =>
            refine ⟨j + 1, ?_⟩
            rw [hnext.out]
            exact ⟨rfl, by omega, by go_num, ⟨_, _, HBD3.out⟩, HF03.out⟩
          case measure => simp [intOf]; omega
        · have hd : ((j : Int) == (xs.length : Int) - 1) = false := by rw [beq_eq_false_iff_ne]; omega
          have HJ1 := Lib.hid hj1
          clear hj1
          go_wp2
          refine wp_region_G [10, 13] [(5, fun w' => w'.cell? ⟨b1, o1 + j, none⟩ = some (.int .i64 x)), (9, fun w' => w'.cell? ⟨b2, o2 + j, none⟩ = some (.int .i64 z))] (by kernel_rfl) ?_
          refine wpG_take (i := 0) (v := ?_) rfl (by kernel_rfl) rfl (by kernel_rfl) (by kernel_rfl) (fun _ _ _ h => h) (by rfl) ?_ (asks_none rfl _) ?_
          rotate_left
          · intro w _; go_simp; rfl
          simp only [Act.put, List.getElem_toArray, List.getElem_cons_zero, List.getElem_cons_succ, List.setIfInBounds_toArray, List.set_cons_zero, List.set_cons_succ]
          refine wpG_take (i := 1) (v := ?_) rfl (by kernel_rfl) rfl (by kernel_rfl) (by kernel_rfl) (fun _ _ _ h => h) (by rfl) ?_ (asks_none rfl _) ?_
          rotate_left
          · intro w _; go_simp; rfl
          simp only [Act.put, List.getElem_toArray, List.getElem_cons_zero, List.getElem_cons_succ, List.setIfInBounds_toArray, List.set_cons_zero, List.set_cons_succ]
          refine wpG_take (i := 2) (v := ?_) rfl (by kernel_rfl) rfl (by kernel_rfl) (by kernel_rfl) (fun _ _ _ h => h) (by rfl) ?_ (asks_none rfl _) ?_
          rotate_left
          · intro w _; go_simp; rfl
          simp only [Act.put, List.getElem_toArray, List.getElem_cons_zero, List.getElem_cons_succ, List.setIfInBounds_toArray, List.set_cons_zero, List.set_cons_succ]
          refine wpG_take (i := 3) (v := ?_) rfl (by kernel_rfl) rfl (by kernel_rfl) (by kernel_rfl) (fun _ _ _ h => h) (by rfl) ?_ (asks_none rfl _) ?_
          rotate_left
          · intro w _; go_simp; rfl
          simp only [Act.put, List.getElem_toArray, List.getElem_cons_zero, List.getElem_cons_succ, List.setIfInBounds_toArray, List.set_cons_zero, List.set_cons_succ]
          refine wpG_take (i := 4) (v := ?_) rfl (by kernel_rfl) rfl (by kernel_rfl) (by kernel_rfl) (fun _ _ _ h => h) (by rfl) ?_ (asks_none rfl _) ?_
          rotate_left
          · intro w _; go_simp; rfl
          simp only [Act.put, List.getElem_toArray, List.getElem_cons_zero, List.getElem_cons_succ, List.setIfInBounds_toArray, List.set_cons_zero, List.set_cons_succ]
          refine wpG_take (i := 5) (v := ?_) rfl (by kernel_rfl) rfl (by kernel_rfl) (by kernel_rfl) (fun _ _ _ h => h) (by rfl) ?_ (by simp [asksOf]; exact hcx) ?_
          rotate_left
          · intro w hw; simp [asksOf] at hw; go_simp; rfl
          simp only [Act.put, List.getElem_toArray, List.getElem_cons_zero, List.getElem_cons_succ, List.setIfInBounds_toArray, List.set_cons_zero, List.set_cons_succ]
          refine wpG_take (i := 6) (v := ?_) rfl (by kernel_rfl) rfl (by kernel_rfl) (by kernel_rfl) (fun _ _ _ h => h) (by rfl) ?_ (asks_none rfl _) ?_
          rotate_left
          · intro w _; go_simp; rfl
          simp only [Act.put, List.getElem_toArray, List.getElem_cons_zero, List.getElem_cons_succ, List.setIfInBounds_toArray, List.set_cons_zero, List.set_cons_succ]
          refine wpG_take (i := 7) (v := ?_) rfl (by kernel_rfl) rfl (by kernel_rfl) (by kernel_rfl) (fun _ _ _ h => h) (by rfl) ?_ (asks_none rfl _) ?_
          rotate_left
          · intro w _; go_simp; rfl
          simp only [Act.put, List.getElem_toArray, List.getElem_cons_zero, List.getElem_cons_succ, List.setIfInBounds_toArray, List.set_cons_zero, List.set_cons_succ]
          refine wpG_take (i := 8) (v := ?_) rfl (by kernel_rfl) rfl (by kernel_rfl) (by kernel_rfl) (fun _ _ _ h => h) (by rfl) ?_ (asks_none rfl _) ?_
          rotate_left
          · intro w _; go_simp; rfl
          simp only [Act.put, List.getElem_toArray, List.getElem_cons_zero, List.getElem_cons_succ, List.setIfInBounds_toArray, List.set_cons_zero, List.set_cons_succ]
          refine wpG_take (i := 9) (v := ?_) rfl (by kernel_rfl) rfl (by kernel_rfl) (by kernel_rfl) (fun _ _ _ h => h) (by rfl) ?_ (by simp [asksOf]; exact hcy) ?_
          rotate_left
          · intro w hw; simp [asksOf] at hw; go_simp; rfl
          simp only [Act.put, List.getElem_toArray, List.getElem_cons_zero, List.getElem_cons_succ, List.setIfInBounds_toArray, List.set_cons_zero, List.set_cons_succ]
          refine wpG_take (i := 11) (v := ?_) rfl (by kernel_rfl) rfl (by kernel_rfl) (by kernel_rfl) (fun _ _ _ h => h) (by rfl) ?_ (asks_none rfl _) ?_
          rotate_left
          · intro w _; go_simp; rfl
          simp only [Act.put, List.getElem_toArray, List.getElem_cons_zero, List.getElem_cons_succ, List.setIfInBounds_toArray, List.set_cons_zero, List.set_cons_succ]
          refine wpG_take (i := 12) (v := ?_) rfl (by kernel_rfl) rfl (by kernel_rfl) (by kernel_rfl) (fun _ _ _ h => h) (by rfl) ?_ (asks_none rfl _) ?_
          rotate_left
          · intro w _; go_simp; rfl
          simp only [Act.put, List.getElem_toArray, List.getElem_cons_zero, List.getElem_cons_succ, List.setIfInBounds_toArray, List.set_cons_zero, List.set_cons_succ]
          refine wpG_loud (i := 10) rfl rfl rfl (by kernel_rfl) (fun K hK => ?_)
          go_simp
          refine (xor_any B0 p m A' c' st.g x z wr.drew (Nat.le_trans hB hbw.out) (HBD.out.drewN 1) M0.out (HS.out.1.wf HW.out) LX.out LY.out).mono ?_
          rintro e w2 ⟨A2', c2', rfl, hbd2, hf2⟩
          rw [E1.out] at hbd2 ⊢
          have hf02 := HFR.out.drew.trans hf2
          have hcx2 := (H1.out.fr hf02 (by decide)).cell HXJ.out
          have hcy2 := (H2.out.fr hf02 (by decide)).cell HYJ.out
          have HF02 := Lib.hid hf02
          have HBD2 := Lib.hid hbd2
          clear hf02 hbd2 hf2 hcx hcy
          refine hK _ _ ?_ ?_
          · intro q hq hwt; simp only [List.mem_cons, List.not_mem_nil, or_false] at hq; rcases hq with rfl | rfl
            · exact Bool.noConfusion (hwt.symm.trans (show _ = true from by kernel_rfl))
            · exact Bool.noConfusion (hwt.symm.trans (show _ = true from by kernel_rfl))
          clear hK K
          try simp only [Act.put, List.getElem_toArray, List.getElem_cons_zero, List.getElem_cons_succ, List.setIfInBounds_toArray, List.set_cons_zero, List.set_cons_succ]
          refine wpG_loud (i := 13) rfl rfl rfl (by kernel_rfl) (fun K hK => ?_)
          go_simp
          refine (mux_any B0 p m A2' c2' h.1 h.2 z st.x w2 (Nat.le_trans hB HF02.out.size) HBD2.out M1.out (S1'.out.1.wf (HS.out.1.wf HW.out)) S1'.out.2 (S1'.out.1.lit LZ.out) (S1'.out.1.lit HS.out.2)).mono ?_
          rintro e w3 ⟨A3', c3', rfl, hbd3, hf3⟩
          rw [E2.out] at hbd3 ⊢
          have hf03 := HF02.out.trans hf3
          have hcx3 := (H1.out.fr hf03 (by decide)).cell HXJ.out
          have hcy3 := (H2.out.fr hf03 (by decide)).cell HYJ.out
          have HF03 := Lib.hid hf03
          have HBD3 := Lib.hid hbd3
          clear hf03 hbd3 hf3 hcx2 hcy2
          refine hK _ _ ?_ ?_
          · intro q hq hwt; simp only [List.mem_cons, List.not_mem_nil, or_false] at hq; rcases hq with rfl | rfl
            · exact hcx3
            · exact hcy3
          clear hK K
          try simp only [Act.put, List.getElem_toArray, List.getElem_cons_zero, List.getElem_cons_succ, List.setIfInBounds_toArray, List.set_cons_zero, List.set_cons_succ]
          refine wpG_take (i := 14) (v := ?_) rfl (by kernel_rfl) rfl (by kernel_rfl) (by kernel_rfl) (fun _ _ _ h => h) (by rfl) ?_ (asks_none rfl _) ?_
          rotate_left
          · intro w _; go_simp; rfl
          simp only [Act.put, List.getElem_toArray, List.getElem_cons_zero, List.getElem_cons_succ, List.setIfInBounds_toArray, List.set_cons_zero, List.set_cons_succ]
          refine wpG_done (by kernel_rfl) ?_
          go_wp2_with fail
          go_roundw
          case rel =>
            refine ⟨j + 1, ?_⟩
            rw [hnext.out]
            exact ⟨rfl, by omega, by go_num, ⟨_, _, HBD3.out⟩, HF03.out⟩
          case measure => simp [intOf]; omega
      · obtain rfl : j = xs.length := by omega
        go_wp2
        go_ret
        exact ⟨A', c', by first | (rw [e.out]; done) | (rw [e.out]; rfl), by rw [e.out]; exact hbd, hfr⟩
  · have hok := okW_no h
    have e : Hid (lessF g xs ys = ⟨g, 0⟩) := if_neg h
    clear hb h1 h2 h hxl hyl hw
    go_enter Try.func45, Try.ntmps45
    go_wp2_with (go_at_call 102; refine (words_any [xs, ys] _ 2 B0 _ (slw_two H1.out H2.out) (by simp) (by simp)).mono ?_; rintro e w' ⟨rfl, rfl⟩)
    go_ret
    refine ⟨A, c, ?_, ?_, Fr.of_below (below_alloc _ _)⟩
    · rw [e.out]; rfl
    · rw [e.out]; exact HB.out.below (below_alloc _ _)
end
end Go.Proofs.Ytgmcajojigedaaa
