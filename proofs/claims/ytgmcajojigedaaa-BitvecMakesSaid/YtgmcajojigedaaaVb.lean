/- The walk of the law BitvecShares. -/
import Derived.Test.YtgmcajojigedaaaVa
set_option linter.unusedSimpArgs false
set_option linter.unusedVariables false
namespace Go.Proofs.Ytgmcajojigedaaa
open Go.RowKit

theorem makeF_len (T : TS) (t : Tm) : (makeF T t).1.nodes.length ≤ T.nodes.length + 1 := by
  unfold makeF
  split
  · split
    · dsimp only; omega
    · split
      · dsimp only; omega
      · dsimp only; simp
  · dsimp only; omega
theorem foldl_len (l : List Tm) : ∀ T : TS, (l.foldl (fun T t => (makeF T t).1) T).nodes.length ≤ T.nodes.length + l.length := by
  induction l with
  | nil => intro T; simp
  | cons t l ih => intro T; have h1 := ih (makeF T t).1; have h2 := makeF_len T t; simp only [List.foldl_cons, List.length_cons]; omega
theorem buildF_len (q : Int) (l : List Tm) : (buildF q l).nodes.length ≤ l.length := by
  have := foldl_len l ⟨q, []⟩
  simp at this
  exact this
theorem arg_le {T : TS} {j : Nat} {s x : Int} (h : argOk ⟨T.width, T.nodes.take j⟩ s x = true) : x = 0 ∨ (0 ≤ x ∧ x < j) := by
  by_cases hs : s = -1
  · subst hs; unfold argOk at h; rw [if_pos rfl] at h; exact .inl (of_decide_eq_true h)
  · obtain ⟨y, t', h1, h2, _⟩ := argOk_node h hs
    have := (List.getElem?_eq_some_iff.1 h2).1
    dsimp only at this
    rw [List.length_take] at this
    exact .inr ⟨by omega, by omega⟩
theorem args_le {T : TS} (hw : TWf T) {j : Nat} {t : Tm} (hj : T.nodes[j]? = some t) : (t.a = 0 ∨ (0 ≤ t.a ∧ t.a < j)) ∧ (t.b = 0 ∨ (0 ≤ t.b ∧ t.b < j)) ∧ (t.c = 0 ∨ (0 ≤ t.c ∧ t.c < j)) := by
  have h := hw.fit j t hj
  rcases hf : formF t.op with _ | ⟨⟨s0, s1, s2⟩, s⟩
  · unfold fitsT at h
    rw [hf] at h
    dsimp only at h
    unfold leafOk at h
    simp only [Bool.and_eq_true, decide_eq_true_eq] at h
    exact ⟨.inl h.1.1, .inl h.1.2.1, .inl h.1.2.2⟩
  · obtain ⟨f0, f1, f2, -⟩ := fits_args_some h hf
    exact ⟨arg_le f0, arg_le f1, arg_le f2⟩
theorem take_ne {l : List Tm} (hn : l.Nodup) {j : Nat} {t : Tm} (hj : l[j]? = some t) : ∀ x ∈ l.take j, x ≠ t := by
  intro x hx e
  subst e
  obtain ⟨i, hi, he⟩ := List.getElem_of_mem hx
  rw [List.length_take] at hi
  rw [List.getElem_take] at he
  obtain ⟨hlt, hg⟩ := List.getElem?_eq_some_iff.1 hj
  rw [← hg] at he
  exact absurd ((List.getElem_inj hn).1 he) (by omega)

set_option maxRecDepth 100000 in
set_option maxHeartbeats 4000000 in
theorem shares_yes (q : Int) (l : List Tm) (A : Option Addr) (c : Nat) (w : World) (h1 : 2 ≤ q) (h2 : q ≤ 8) (hl : l.length ≤ 40) (hs : SlT w A c l) :
    Calls Try.prog 20 #[.int .i64 q, .slice A l.length c] w fun e w' => e = .returned (.bool true) ∧ Below w.heap.size w w' := by
  obtain ⟨T, hT⟩ : ∃ T, buildF q l = T := ⟨_, rfl⟩
  have hwf : TWf T := by rw [← hT]; exact buildF_wf h1 h2 l
  have hlen : T.nodes.length ≤ l.length := by rw [← hT]; exact buildF_len q l
  have HT := Lib.hid hT
  have WF := Lib.hid hwf
  have HS := Lib.hid hs
  have d1 : decide ((l.length : Int) > 40) = false := decide_eq_false (by omega)
  have d1' : decide (40 < l.length) = false := decide_eq_false (by omega)
  have d2 : decide ((T.nodes.length : Int) > (l.length : Int)) = false := decide_eq_false (by omega)
  have d2' : decide (l.length < T.nodes.length) = false := decide_eq_false (by omega)
  clear hT hwf hs
  go_enter Try.func20, Try.ntmps20
  go_wp2_with (first
    | (go_at_call 76; go_must (refine (awake22 _).mono ?_; rintro e w1 ⟨rfl, hb1⟩; have HB1 := Lib.hid hb1; clear hb1))
    | (go_at_call 23; go_must (refine (isWidth_yes _ _ h1 h2).mono ?_; rintro e w' ⟨rfl, rfl⟩))
    | (go_at_call 77; go_must (refine (build77_yes q l A c w1 h1 h2 (HS.out.below HB1.out)).mono ?_; rintro e w2 ⟨p, m, A2, c2, rfl, ht, hb2⟩; rw [HT.out] at ht; have HT2 := Lib.hid (ht.mono HB1.out.size); have HB2 : Hid (Below w.heap.size w w2) := HB1.out.trans (hb2.mono HB1.out.size); clear ht hb2))
    | (go_at_call 57; go_must (refine (tlen_any HT2.out).mono ?_; rintro e w' ⟨rfl, rfl⟩)))
  clear HS d1 d1' d2 d2' HT HB1
  go_loopw [7, 8, 9, 10, 11, 12, 33] (fun v _ _ _ _ _ u wr => ∃ j : Nat, j ≤ T.nodes.length ∧ u = .int .i64 j ∧ OwnT wr w2.heap.size v (T.nodes.take j) ∧ Below w2.heap.size w2 wr) (fun _ _ _ _ _ _ u _ => T.nodes.length - (intOf u).toNat)
  case atStart => exact ⟨0, Nat.zero_le _, rfl, OwnT.nil _ _, Below.refl _ _⟩
  case round =>
    obtain ⟨j, hj, rfl, hown, hbr⟩ := hrel
    rename_i wr
    have HOWN := Lib.hid hown
    have HBR := Lib.hid hbr
    have HTR := Lib.hid (HT2.out.below hbr)
    by_cases hlt : j < T.nodes.length
    · obtain ⟨t, ht⟩ : ∃ t, T.nodes[j]? = some t := ⟨_, List.getElem?_eq_getElem hlt⟩
      have HTJ := Lib.hid ht
      obtain ⟨ga, gb, gc⟩ := args_le WF.out ht
      have hltI : (j : Int) < (T.nodes.length : Int) := by omega
      have e1 : decide (t.a > (j : Int)) = false := decide_eq_false (by omega)
      have e2 : decide (t.b > (j : Int)) = false := decide_eq_false (by omega)
      have e3 : decide (t.c > (j : Int)) = false := decide_eq_false (by omega)
      obtain ⟨Al, cl, rfl, hnl⟩ := hown.nodes
      have hll : (T.nodes.take j).length = j := by rw [List.length_take]; omega
      rw [hll] at HOWN ⊢
      have HNL := Lib.hid hnl
      have htk : T.nodes.take (j + 1) = T.nodes.take j ++ [t] := by rw [List.take_add_one, ht]; rfl
      have HTK := Lib.hid htk
      have HNE := Lib.hid (take_ne WF.out.nodup ht)
      obtain ⟨op, v, x, y, z⟩ := t
      dsimp only at e1 e2 e3 ga gb gc
      clear hown hbr ht hnl htk
      have key : (((x == (j : Int)) = false) ∨ ((x == (j : Int)) = true ∧ decide (0 < j) = false)) := by
        by_cases e : x = (j : Int)
        · exact .inr ⟨by rw [e]; exact beq_self_eq_true _, decide_eq_false (by omega)⟩
        · exact .inl (beq_eq_false_iff_ne.2 e)
      clear ga gb gc
      rcases key with e4 | ⟨e4, e5⟩
      · skip
        go_wp2_with (first
          | (go_at_call 62; go_must (refine (node_yes HTR.out HTJ.out).mono ?_; unfold tagg; dsimp only; rintro e w3 ⟨rfl, hb3⟩; have HT3 := Lib.hid (HTR.out.below hb3); have HB3 := Lib.hid hb3; clear hb3))
          | (go_at_call 84; go_must (refine (make_same (HT3.out.below (below_alloc w3 (.cells #[.int .i64 op, .int .i64 v, .int .i64 x, .int .i64 y, .int .i64 z] 84))) WF.out HTJ.out).mono ?_; rintro e w4 ⟨rfl, hb4⟩; obtain ⟨hbw, hKl, k0, k1, k2, k3, k4⟩ := box84 (t := ⟨op, v, x, y, z⟩) hb4; dsimp only at k0 k1 k2 k3 k4; have HB4 := Lib.hid (HB3.out.trans (hbw.mono HB3.out.size)); clear hb4 hbw hKl))
          | (go_at_call 90; go_must (have hcn := contains_no (t := ⟨op, v, x, y, z⟩) ((slT_of_nodes HNL.out).below HB4.out) HNE.out; rw [hll] at hcn; refine hcn.mono ?_; rintro e w5 ⟨rfl, hb5⟩; have k0' := (hb5.cell (cell_lt k0)).trans k0; have k1' := (hb5.cell (cell_lt k1)).trans k1; have k2' := (hb5.cell (cell_lt k2)).trans k2; have k3' := (hb5.cell (cell_lt k3)).trans k3; have k4' := (hb5.cell (cell_lt k4)).trans k4; have HB5 := Lib.hid (HB4.out.trans (hb5.mono HB4.out.size)); have hown5 := HOWN.out.below HB5.out; have HO5 := Lib.hid hown5; clear hb5 k0 k1 k2 k3 k4 hcn))
          | (at_builtin; go_must (refine appT (t := ⟨op, v, x, y, z⟩) rfl _ _ rfl w2.heap.size _ (T.nodes.take j) hown5 rfl (w5.heap.size) rfl rfl ?_ ?_ ?_)))
        · rw [hll]; omega
        · have := HBR.out.size; have := HB5.out.size; omega
        intro v9 w9 ho9 hg9
        rw [← HTK.out] at ho9
        have hb9 := (HBR.out.trans (HB5.out.mono HBR.out.size)).grown hg9 (HBR.out.trans (HB5.out.mono HBR.out.size)).size (fun q hq => (HO5.out.lt q hq).1)
        clear hg9 hown5
        go_wp2
        go_roundw
        case rel => exact ⟨j + 1, by omega, by go_num, ho9, hb9⟩
        case measure => simp [intOf]; omega
      · skip
        go_wp2_with (first
          | (go_at_call 62; go_must (refine (node_yes HTR.out HTJ.out).mono ?_; unfold tagg; dsimp only; rintro e w3 ⟨rfl, hb3⟩; have HT3 := Lib.hid (HTR.out.below hb3); have HB3 := Lib.hid hb3; clear hb3))
          | (go_at_call 84; go_must (refine (make_same (HT3.out.below (below_alloc w3 (.cells #[.int .i64 op, .int .i64 v, .int .i64 x, .int .i64 y, .int .i64 z] 84))) WF.out HTJ.out).mono ?_; rintro e w4 ⟨rfl, hb4⟩; obtain ⟨hbw, hKl, k0, k1, k2, k3, k4⟩ := box84 (t := ⟨op, v, x, y, z⟩) hb4; dsimp only at k0 k1 k2 k3 k4; have HB4 := Lib.hid (HB3.out.trans (hbw.mono HB3.out.size)); clear hb4 hbw hKl))
          | (go_at_call 90; go_must (have hcn := contains_no (t := ⟨op, v, x, y, z⟩) ((slT_of_nodes HNL.out).below HB4.out) HNE.out; rw [hll] at hcn; refine hcn.mono ?_; rintro e w5 ⟨rfl, hb5⟩; have k0' := (hb5.cell (cell_lt k0)).trans k0; have k1' := (hb5.cell (cell_lt k1)).trans k1; have k2' := (hb5.cell (cell_lt k2)).trans k2; have k3' := (hb5.cell (cell_lt k3)).trans k3; have k4' := (hb5.cell (cell_lt k4)).trans k4; have HB5 := Lib.hid (HB4.out.trans (hb5.mono HB4.out.size)); have hown5 := HOWN.out.below HB5.out; have HO5 := Lib.hid hown5; clear hb5 k0 k1 k2 k3 k4 hcn))
          | (at_builtin; go_must (refine appT (t := ⟨op, v, x, y, z⟩) rfl _ _ rfl w2.heap.size _ (T.nodes.take j) hown5 rfl (w5.heap.size) rfl rfl ?_ ?_ ?_)))
        · rw [hll]; omega
        · have := HBR.out.size; have := HB5.out.size; omega
        intro v9 w9 ho9 hg9
        rw [← HTK.out] at ho9
        have hb9 := (HBR.out.trans (HB5.out.mono HBR.out.size)).grown hg9 (HBR.out.trans (HB5.out.mono HBR.out.size)).size (fun q hq => (HO5.out.lt q hq).1)
        clear hg9 hown5
        go_wp2
        go_roundw
        case rel => exact ⟨j + 1, by omega, by go_num, ho9, hb9⟩
        case measure => simp [intOf]; omega
    · obtain rfl : j = T.nodes.length := by omega
      clear hown hbr
      go_wp2_with (go_at_call 57; go_must (refine (tlen_any HTR.out).mono ?_; rintro e w' ⟨rfl, rfl⟩))
      go_ret
      exact ⟨rfl, HB2.out.trans (HBR.out.mono HB2.out.size)⟩
set_option maxRecDepth 100000 in
theorem shares_walk (q : Int) (l : List Tm) (A : Option Addr) (c : Nat) (w : World) (hs : SlT w A c l) :
    Calls Try.prog 20 #[.int .i64 q, .slice A l.length c] w fun e w' => e = .returned (.bool true) ∧ Below w.heap.size w w' := by
  have hbig := hs.big
  by_cases hl : l.length ≤ 40
  · by_cases h : q < 2 ∨ 8 < q
    · have d1 : decide ((l.length : Int) > 40) = false := decide_eq_false (by omega)
      have d1' : decide (40 < l.length) = false := decide_eq_false (by omega)
      clear hs hl
      go_enter Try.func20, Try.ntmps20
      go_wp2_with (first
        | (go_at_call 76; go_must (refine (awake22 _).mono ?_; rintro e w1 ⟨rfl, hb1⟩; have HB1 := Lib.hid hb1; clear hb1))
        | (go_at_call 23; go_must (refine (isWidth_no _ _ h).mono ?_; rintro e w' ⟨rfl, rfl⟩)))
      go_ret
      exact ⟨rfl, HB1.out⟩
    · exact shares_yes q l A c w (by omega) (by omega) hl hs
  · have d1 : decide ((l.length : Int) > 40) = true := decide_eq_true (by omega)
    have d1' : decide (40 < l.length) = true := decide_eq_true (by omega)
    clear hs hl
    go_enter Try.func20, Try.ntmps20
    go_wp2_with (go_at_call 76; go_must (refine (awake22 _).mono ?_; rintro e w1 ⟨rfl, hb1⟩; have HB1 := Lib.hid hb1; clear hb1))
    go_ret
    exact ⟨rfl, HB1.out⟩
end Go.Proofs.Ytgmcajojigedaaa

