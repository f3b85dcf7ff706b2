/- The reference of chapter 22: Marks. -/
import Derived.Test.YtgmcajojigedaaaWe
import Derived.Test.YtgmcajojigedaaaWg
set_option linter.unusedSimpArgs false
set_option linter.unusedVariables false
namespace Go.Proofs.Ytgmcajojigedaaa
open Go.RowKit

theorem sI_end {s0 s1 s2 a b c : Int} {f : Nat → Bool} {m : Nat} (hm : m ≤ 3) (h : ∀ n, m ≤ n → n < 3 → sAt s0 s1 s2 n = -1) (y : Nat) : sI s0 s1 s2 a b c f 3 y = sI s0 s1 s2 a b c f m y := by
  have key : ∀ d, d ≤ 3 - m → sI s0 s1 s2 a b c f (m + d) y = sI s0 s1 s2 a b c f m y := fun d hd => by
    induction d with
    | zero => rfl
    | succ d ih =>
      rw [show m + (d + 1) = (m + d) + 1 from rfl, sI, ih (by omega), h (m + d) (by omega) (by omega)]; simp
  have := key (3 - m) (Nat.le_refl _)
  rwa [show m + (3 - m) = 3 by omega] at this
/-- The arguments that a node of a table has, by their places. -/
structure MArgs (T : TS) (i j : Nat) (t : Tm) (nd : List Int) (s0 s1 s2 : Int) : Prop where
  len : nd.length ≤ 3
  lt : ∀ n, n < nd.length → sAt s0 s1 s2 n ≠ -1 ∧ ∃ x : Nat, sAt t.a t.b t.c n = (x : Int) ∧ x < T.nodes.length
  all : ∀ y, sI s0 s1 s2 t.a t.b t.c (mK T i j) nd.length y = mK T i (j + 1) y
theorem margs {T : TS} (hw : TWf T) {i j : Nat} {t : Tm} (hk : T.nodes[i - j]? = some t) (hm : mK T i j (i - j) = true) : ∃ s0 s1 s2, MArgs T i j t (needsF t.op) s0 s1 s2 := by
  rcases hf : formF t.op with _ | ⟨⟨s0, s1, s2⟩, s⟩
  · have e : needsF t.op = [] := by unfold needsF; rw [hf]
    rw [e]
    exact ⟨-1, -1, -1, by simp, fun n hn => by simp at hn, fun y => (no_form hk hf y).symm⟩
  · obtain ⟨fa0, fa1, fa2, -⟩ := fits_args_some (hw.fit _ t hk) hf
    have e : needsF t.op = needL s0 s1 s2 := by unfold needsF; rw [hf]
    rw [e]
    have hl := (List.getElem?_eq_some_iff.1 hk).1
    have key : ∀ (so y : Int), argOk ⟨T.width, T.nodes.take (i - j)⟩ so y = true → so ≠ -1 → ∃ x : Nat, y = (x : Int) ∧ x < T.nodes.length := fun so y ho hs => by
      obtain ⟨x, t', h1, h2, _⟩ := argOk_node ho hs
      have := (List.getElem?_eq_some_iff.1 h2).1
      rw [List.length_take] at this
      exact ⟨x, h1, by omega⟩
    have h3 := sI_three hk hf hm
    refine ⟨s0, s1, s2, ?_, fun n hn => ?_, fun y => ?_⟩
    · unfold needL; repeat' split
      all_goals simp
    · have hn3 : n < 3 := by
        unfold needL at hn
        revert hn
        repeat' split
        all_goals (intro hn; simp at hn; try omega)
      have hne : sAt s0 s1 s2 n ≠ -1 := by
        rcases formF_cases hf with ⟨_, h⟩ | ⟨_, h⟩ | ⟨_, h⟩ | ⟨_, h⟩ | ⟨_, h⟩ | ⟨_, h⟩ | ⟨_, h⟩
        all_goals (simp only [Prod.mk.injEq] at h; obtain ⟨⟨rfl, rfl, rfl⟩, rfl⟩ := h; simp [needL] at hn; rcases three_cases hn3 with rfl | rfl | rfl <;> first | decide | omega)
      refine ⟨hne, ?_⟩
      rcases three_cases hn3 with rfl | rfl | rfl
      · exact key _ _ fa0 hne
      · exact key _ _ fa1 hne
      · exact key _ _ fa2 hne
    · rw [← h3 y]
      refine (sI_end ?_ (fun n h1 h2 => ?_) y).symm
      · unfold needL; repeat' split
        all_goals simp
      · rcases formF_cases hf with ⟨_, h⟩ | ⟨_, h⟩ | ⟨_, h⟩ | ⟨_, h⟩ | ⟨_, h⟩ | ⟨_, h⟩ | ⟨_, h⟩
        all_goals (simp only [Prod.mk.injEq] at h; obtain ⟨⟨rfl, rfl, rfl⟩, rfl⟩ := h; simp [needL] at h1; rcases three_cases h2 with rfl | rfl | rfl <;> first | decide | omega)
def MarksRet (w : World) (T : TS) (i : Int) (e : Ending) (w' : World) : Prop := ∃ v, e = .returned v ∧ OwnB w' w.heap.size v ((List.range T.nodes.length).map (mrk T i)) ∧ Below w.heap.size w w'
section
variable {A : Option Addr} {c : Nat} {T : TS} {w : World}
theorem replicate_map (N : Nat) (f : Nat → Bool) (h : ∀ x, f x = false) : List.replicate N false = (List.range N).map f := by
  apply List.ext_getElem?; intro k; by_cases hk : k < N <;> simp [hk, List.getElem?_replicate, h]
set_option maxRecDepth 100000 in
set_option maxHeartbeats 4000000 in
theorem marks_any (hs : SlT w A c T.nodes) (hw : TWf T) (i : Int) :
    Calls Try.prog 115 #[.agg #[.int .i64 T.width, .slice A T.nodes.length c], .int .i64 i] w (MarksRet w T i) := by
  have hsz := hw.size
  have hb0 := below_alloc w (.cells #[.int .i64 T.width, .slice A T.nodes.length c] 66)
  have hbx := heap_alloc_new w (.cells #[.int .i64 T.width, .slice A T.nodes.length c] 66)
  have hz0 : (w.alloc (.cells #[.int .i64 T.width, .slice A T.nodes.length c] 66)).heap.size = w.heap.size + 1 := by simp
  obtain ⟨w1, hmk, hown, hgr, hS⟩ := make_bools (w.alloc (.cells #[.int .i64 T.width, .slice A T.nodes.length c] 66)) T.nodes.length (by omega)
  obtain ⟨S, hSe⟩ : ∃ S, (w.alloc (.cells #[.int .i64 T.width, .slice A T.nodes.length c] 66)).heap.size = S := ⟨_, rfl⟩
  rw [hSe] at hmk hown hS hz0
  have hB1 : Below S (w.alloc (.cells #[.int .i64 T.width, .slice A T.nodes.length c] 66)) w1 := ⟨hgr.os, hgr.tape, hgr.output, hgr.size, fun k hk => hgr.block k (by omega) (by simp)⟩
  have hbx1 : w1.heap[w.heap.size]? = some (.cells #[.int .i64 T.width, .slice A T.nodes.length c] 66 (0, 0)) := (hB1.block _ (by omega)).trans hbx
  have c1 : w1.cell? ⟨w.heap.size, 1, none⟩ = some (.slice A T.nodes.length c) := by simp [World.cell?, hbx1]
  have HB1 : Hid (Below w.heap.size w w1) := hb0.trans (hB1.mono (by omega))
  have HS0 := Lib.hid hs
  have HX1 := Lib.hid hbx1
  have HS1 := Lib.hid hS
  have HZ : Hid (S = w.heap.size + 1) := hz0
  clear hs hb0 hbx hz0 hgr hB1 hbx1 hS hSe
  rcases hn : nodeAt T i with _ | t0
  · have hhas := nodeAt_none.1 hn
    have key : i < 0 ∨ (0 ≤ i ∧ (T.nodes.length : Int) ≤ i) := by
      unfold hasB at hhas
      have := of_decide_eq_false hhas
      omega
    have HO : Hid (OwnB w1 S (.slice (some ⟨S, 0, none⟩) T.nodes.length T.nodes.length) ((List.range T.nodes.length).map (mrk T i))) := by
      show OwnB _ _ _ _
      rw [← replicate_map T.nodes.length (mrk T i) (fun x => by unfold mrk; rw [hn])]; exact hown
    clear hn hhas hown
    rcases key with h | ⟨h, h'⟩
    · have e1 : decide (i < 0) = true := decide_eq_true h
      clear h
      go_enter Try.func115, Try.ntmps115
      go_wp2
      go_ret
      exact ⟨_, rfl, HO.out.mono (by have := HZ.out; omega), HB1.out⟩
    · have e1 : decide (i < 0) = false := decide_eq_false (by omega)
      have e2 : decide (i ≥ (T.nodes.length : Int)) = true := decide_eq_true h'
      clear h h'
      go_enter Try.func115, Try.ntmps115
      go_wp2
      go_ret
      exact ⟨_, rfl, HO.out.mono (by have := HZ.out; omega), HB1.out⟩
  · obtain ⟨i, rfl, hi⟩ := nodeAt_some hn
    have hil := (List.getElem?_eq_some_iff.1 hi).1
    have e1 : decide ((i : Int) < 0) = false := decide_eq_false (by omega)
    have e2 : decide ((i : Int) ≥ (T.nodes.length : Int)) = false := decide_eq_false (by omega)
    have e2' : decide (T.nodes.length ≤ i) = false := decide_eq_false (by omega)
    have hiI : (i : Int) < (T.nodes.length : Int) := by omega
    have HMRK : Hid (∀ x, mrk T (i : Int) x = mK T i (i + 1) x) := fun x => by unfold mrk mF; rw [hn]; rfl
    obtain ⟨z0, _, hc0⟩ := hown.cell (by simp) i (by omega)
    have hf0 := hown.frozen (by simp) i
    have HOWN := Lib.hid (hown.set (by simp) i true)
    have HIL := Lib.hid hil
    clear hn hi hil hown
    go_enter Try.func115, Try.ntmps115
    go_wp2
    clear hmk hc0 hf0 e1 e2 e2' c1
    obtain ⟨w2, hw2⟩ : ∃ w2 : World, w1.setCell ⟨S, i, none⟩ (.bool true) = w2 := ⟨_, rfl⟩
    have HO2 : Hid (OwnB w2 S (.slice (some ⟨S, 0, none⟩) T.nodes.length T.nodes.length) ((List.range T.nodes.length).map (mK T i 0))) := by
      show OwnB _ _ _ _
      rw [← hw2]
      have e : (List.range T.nodes.length).map (mK T i 0) = (List.replicate T.nodes.length false).set i true := by
        rw [replicate_map T.nodes.length (fun _ => false) (fun _ => rfl), set_range]
        apply List.map_congr_left
        intro k _
        show (k == i) = _
        by_cases hk : k = i <;> simp [hk]
      rw [e]
      exact HOWN.out
    have hb2 : Below S w1 w2 := by rw [← hw2]; exact (Below.refl S w1).setCell (p := ⟨S, i, none⟩) (Nat.le_refl _) _
    have HB2 := Lib.hid hb2
    have HS2 : Hid (S < w2.heap.size) := by
      show S < _
      rw [← hw2, size_setCell]; exact HS1.out
    rw [hw2]
    clear hw2 HOWN HS1 hb2
    go_loopw [6, 7] (fun u6 _ wr => ∃ (K : Int) (j : Nat), K + j = i ∧ -1 ≤ K ∧ u6 = .int .i64 K ∧ OwnB wr S (.slice (some ⟨S, 0, none⟩) T.nodes.length T.nodes.length) ((List.range T.nodes.length).map (mK T i j)) ∧ Below S w1 wr ∧ S < wr.heap.size) (fun K _ _ => (intOf K + 1).toNat)
    case atStart => exact ⟨i, 0, by omega, by omega, rfl, HO2.out, HB2.out, HS2.out⟩
    case round =>
      obtain ⟨K, j, hKj, hK1, rfl, hseen, hbw, hz⟩ := hrel
      rename_i wr
      by_cases hK : 0 ≤ K
      · obtain ⟨k, rfl⟩ := Int.eq_ofNat_of_zero_le hK
        have hk : i - j = k := by omega
        have hki : k ≤ i := by omega
        have hkN : k < T.nodes.length := by have := HIL.out; omega
        have hkI : (k : Int) < (T.nodes.length : Int) := by omega
        obtain ⟨y, hy, hcy⟩ := hseen.cell (by simp) k (by omega)
        have hy' : y = mK T i j k := by
          rw [List.getElem?_map, List.getElem?_range (by omega)] at hy
          exact (Option.some.inj hy).symm
        subst hy'
        have HK := Lib.hid hk
        have HKJ := Lib.hid hKj
        have HSEEN := Lib.hid hseen
        have HBW := Lib.hid hbw
        have HZW := Lib.hid hz
        clear hy hk hKj hseen hbw hz hK hK1
        rcases hm : mK T i j k with _ | _
        · rw [hm] at hcy
          have HN : Hid (∀ y, mK T i (j + 1) y = mK T i j y) := no_mark (by rw [HK.out]; exact hm)
          clear hm
          go_wp2
          go_roundw
          case rel =>
            refine ⟨(k : Int) - 1, j + 1, by have := HKJ.out; omega, by omega, by go_num, ?_, HBW.out, HZW.out⟩
            rw [List.map_congr_left (fun y _ => HN.out y)]; exact HSEEN.out
          case measure => first | (simp [intOf]; done) | (simp [intOf]; omega)
        · have HM : Hid (mK T i j (i - j) = true) := by show _ = _; rw [HK.out]; exact hm
          clear hm
          rw [show mK T i j k = true by rw [← HK.out]; exact HM.out] at hcy
          obtain ⟨t, ht⟩ : ∃ t, T.nodes[k]? = some t := ⟨_, List.getElem?_eq_getElem hkN⟩
          obtain ⟨s0, s1, s2, hma⟩ := margs hw (by rw [HK.out]; exact ht) HM.out
          obtain ⟨nd, hnd⟩ : ∃ nd, needsF t.op = nd := ⟨_, rfl⟩
          rw [hnd] at hma
          have HND := Lib.hid hnd
          have HMA := Lib.hid hma
          have HT := Lib.hid ht
          have hndl := hma.len
          clear hnd hma ht
          go_wp2
          clear hcy
          go_loopw [7] (fun u wr => ∃ (W : World) (n : Nat), W = wr ∧ n ≤ nd.length ∧ u = .int .i64 n ∧ OwnB wr S (.slice (some ⟨S, 0, none⟩) T.nodes.length T.nodes.length) ((List.range T.nodes.length).map (sI s0 s1 s2 t.a t.b t.c (mK T i j) n)) ∧ Below S w1 wr ∧ S < wr.heap.size) (fun u _ => nd.length - (intOf u).toNat)
          case atStart => exact ⟨_, 0, rfl, by omega, rfl, HSEEN.out, HBW.out, HZW.out⟩
          case round =>
            obtain ⟨wr2, n, rfl, hn, rfl, hseen, hbr, hzr⟩ := hrel
            have HSEENR := Lib.hid hseen
            have HBR := Lib.hid hbr
            have HZR := Lib.hid hzr
            have hbx : wr2.heap[w.heap.size]? = some (.cells #[.int .i64 T.width, .slice A T.nodes.length c] 66 (0, 0)) := (hbr.block _ (by have := HZ.out; omega)).trans HX1.out
            have HBX := Lib.hid hbx
            have c1 : wr2.cell? ⟨w.heap.size, 1, none⟩ = some (.slice A T.nodes.length c) := by simp [World.cell?, hbx]
            have HSR : Hid (SlT wr2 A c T.nodes) := HS0.out.below (HB1.out.trans (hbr.mono (by have := HZ.out; omega)))
            obtain ⟨bb, ob, hA, hcell⟩ := HSR.out.2.2 (by omega)
            subst hA
            obtain ⟨n0, n1, n2, n3, n4⟩ := hcell k t HT.out
            have HC1 := Lib.hid c1
            clear hseen hbr hzr hbx hcell
            by_cases hlt : n < nd.length
            · have hltI : (n : Int) < (nd.length : Int) := by omega
              obtain ⟨hsn, x, hx, hxN⟩ := HMA.out.lt n hlt
              have HNY : Hid ((List.range T.nodes.length).map (sI s0 s1 s2 t.a t.b t.c (mK T i j) (n + 1)) = ((List.range T.nodes.length).map (sI s0 s1 s2 t.a t.b t.c (mK T i j) n)).set x true) := by
                show _ = _
                rw [set_range]
                refine List.map_congr_left fun y _ => ?_
                rw [sI, hx]; simp [hsn]
              have hq : wr2.cell? ⟨bb, ob + k * 5 + 2 + n, none⟩ = some (.int .i64 (x : Int)) := by
                rw [← hx]
                rcases three_cases (show n < 3 by omega) with rfl | rfl | rfl
                · exact n2
                · exact n3
                · exact n4
              have HQ := Lib.hid hq
              have hxI : (x : Int) < (T.nodes.length : Int) := by omega
              have hxl : x < T.nodes.length := hxN
              clear hsn hx hq
              go_wp2_with (go_at_call 91; go_must (refine (needs_any t.op _).mono ?_; rintro e w4 ⟨A4, c4, rfl, hs4, hb4⟩; rw [HND.out]; have HB4 := Lib.hid hb4; have c1' := (hb4.cell (cell_lt HC1.out)).trans HC1.out; have hq' := (hb4.cell (cell_lt HQ.out)).trans HQ.out; obtain ⟨y0, -, hcs⟩ := (HSEENR.out.below hb4).cell (by simp) x hxl; have hfs := (HSEENR.out.below hb4).frozen (by simp) x; clear hs4 hb4))
              go_roundw
              case rel => exact ⟨_, n + 1, rfl, by omega, by go_num, by rw [HNY.out]; exact (HSEENR.out.below HB4.out).set (by simp) x true, (HBR.out.trans (HB4.out.mono (by have := HZR.out; omega))).setCell (p := ⟨S, x, none⟩) (Nat.le_refl _) _, by rw [size_setCell]; have := HB4.out.size; have := HZR.out; omega⟩
              case measure => simp [intOf]; omega
            · obtain rfl : n = nd.length := by omega
              have HEQ : Hid ((List.range T.nodes.length).map (sI s0 s1 s2 t.a t.b t.c (mK T i j) nd.length) = (List.range T.nodes.length).map (mK T i (j + 1))) := List.map_congr_left fun y _ => HMA.out.all y
              have hltI : ¬ (nd.length : Int) < (nd.length : Int) := by omega
              go_wp2_with (go_at_call 91; go_must (refine (needs_any t.op _).mono ?_; rintro e w4 ⟨A4, c4, rfl, hs4, hb4⟩; rw [HND.out]; have HB4 := Lib.hid hb4; clear hs4 hb4))
              go_roundw
              case rel =>
                refine ⟨(k : Int) - 1, j + 1, by have := HKJ.out; omega, by omega, by go_num, ?_, HBR.out.trans (HB4.out.mono (by have := HZR.out; omega)), by have := HB4.out.size; have := HZR.out; omega⟩
                rw [← HEQ.out]; exact HSEENR.out.below HB4.out
              case measure => first | (simp [intOf]; done) | (simp [intOf]; omega)
      · obtain rfl : K = -1 := by omega
        obtain rfl : j = i + 1 := by omega
        have HEQ : Hid ((List.range T.nodes.length).map (mK T i (i + 1)) = (List.range T.nodes.length).map (mrk T (i : Int))) := List.map_congr_left fun y _ => (HMRK.out y).symm
        have HSEEN := Lib.hid hseen
        have HBW := Lib.hid hbw
        clear hseen hbw hz hK hKj hK1
        go_wp2
        go_ret
        exact ⟨_, rfl, by rw [← HEQ.out]; exact HSEEN.out.mono (by have := HZ.out; omega), HB1.out.trans (HBW.out.mono (by have := HZ.out; omega))⟩
end
end Go.Proofs.Ytgmcajojigedaaa
