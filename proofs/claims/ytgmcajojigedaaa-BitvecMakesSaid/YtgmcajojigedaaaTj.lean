/- The walk of the table's parts. -/
import Derived.Test.YtgmcajojigedaaaTi
import Derived.Test.YtgmcajojigedaaaSl
import Derived.Test.YtgmcajojigedaaaSh
import Derived.Laws.OwnMore
set_option linter.unusedSimpArgs false
set_option linter.unusedVariables false
namespace Go.Proofs.Ytgmcajojigedaaa
open Go.RowKit Go.Maps
theorem reverse_own {w : World} {B g n cap : Nat} {xs : List Int} (h : OwnI w B (.slice (some ⟨g, 0, none⟩) n cap) xs) (e : xs.length = n) (h63 : n ≤ 9223372036854775807) :
    Calls Try.prog 161 #[.slice (some ⟨g, 0, none⟩) n cap] w fun e w' => e = .returned (.tuple #[]) ∧ OwnI w' B (.slice (some ⟨g, 0, none⟩) n cap) xs.reverse ∧ w.grownBy w' (some g) := by
  subst e
  refine (Try.slices_Reverse_int g 0 cap xs w (own_holds h rfl) h63).mono ?_
  rintro e w' ⟨rfl, q, rfl⟩
  obtain ⟨h1, h2⟩ := own_put (ys := xs.reverse) q h rfl (by simp)
  exact ⟨rfl, h1, h2⟩
theorem make_bools (w : World) (n : Nat) (hn : n ≤ 1000000) : ∃ w1, (Instr.makeSlice 27 (.int .i64 (n : Int)) (.int .i64 (n : Int))).run Try.prog w = .ok (.slice (some ⟨w.heap.size, 0, none⟩) n n) w1 ∧ OwnB w1 w.heap.size (.slice (some ⟨w.heap.size, 0, none⟩) n n) (List.replicate n false) ∧ w.grownBy w1 none ∧ w.heap.size < w1.heap.size := by
  obtain ⟨i, hi, h0, h1, h2⟩ := info_parts Try.info4
  obtain ⟨w1, h3, h4, h5⟩ := run_make_full (P := Try.prog) w w.heap.size 27 4 i _ 1 Try.underlying27 hi h0 h1 .i64 .i64 n (by rw [h2]; omega) (by unfold maxLen; omega) (Nat.le_refl _)
  refine ⟨w1, h3, ?_, h5, ?_⟩
  · unfold OwnB OwnOf
    rw [List.length_replicate, List.map_replicate]
    have : (madeCells (Value.bool false).cells (n * 1)).toList = List.replicate n (Value.bool false) := by
      rw [Nat.mul_one]
      apply List.ext_getElem?
      intro k
      simp [madeCells, Value.cells]
      by_cases hk : k < n <;> simp [hk, List.getElem?_replicate, Nat.mod_one]
    rw [this] at h4
    exact h4
  · have := World.ownsRow.lt h4 w.heap.size rfl
    omega
section
variable {B0 p m : Nat} {A : Option Addr} {c' : Nat} {T : TS} {w : World}
def PartsRet (w : World) (T : TS) (i : Nat) (e : Ending) (w' : World) : Prop := ∃ v, e = .returned v ∧ OwnI w' w.heap.size v ((partsN T i).map fun k => ((k : Nat) : Int)) ∧ Below w.heap.size w w'
set_option maxRecDepth 100000 in
set_option maxHeartbeats 4000000 in
theorem parts_yes (hb : Tb B0 w p m A c' T) (hw : TWf T) {i : Nat} {t0 : Tm} (hi : T.nodes[i]? = some t0) :
    Calls Try.prog 118 #[.pointer (some ⟨p, 0, none⟩), .int .i64 i] w (PartsRet w T i) := by
  have hil := (List.getElem?_eq_some_iff.1 hi).1
  have hsz := hw.size
  have hi16 : i < 16384 := by omega
  have HB := Lib.hid hb
  have HIL := Lib.hid hil
  have HAS : Hid (hasB T (i : Int) = true) := decide_eq_true (by omega)
  have HPL : Hid (p < w.heap.size) := lt_of_some hb.blk
  obtain ⟨w1, hmk, hown, hgr, hS⟩ := make_bools w (i + 1) (by omega)
  obtain ⟨S, hSe⟩ : ∃ S, w.heap.size = S := ⟨_, rfl⟩
  have hmk' : (Instr.makeSlice 27 (.int .i64 ((i : Int) + 1)) (.int .i64 ((i : Int) + 1))).run Try.prog w = .ok (.slice (some ⟨S, 0, none⟩) (i + 1) (i + 1)) w1 := by rw [← hSe]; exact_mod_cast hmk
  rw [hSe] at hown hS
  have hB1 : Below w.heap.size w w1 := ⟨hgr.os, hgr.tape, hgr.output, hgr.size, fun k hk => hgr.block k hk (by simp)⟩
  obtain ⟨z0, _, hc0⟩ := hown.cell (by simp) i (by omega)
  have hf0 := hown.frozen (by simp) i
  have HOWN := Lib.hid (hown.set (by simp) i true)
  have HB1 := Lib.hid hB1
  have HSE := Lib.hid hSe
  have HSL := Lib.hid hS
  have hiN : (i : Int) < ((i + 1 : Nat) : Int) := by omega
  clear hb hi hil hsz hmk hgr hB1 hown hSe hS
  go_enter Try.func118, Try.ntmps118
  go_wp2_with (go_at_call 117; go_must (refine (exists_v HB.out HAS.out).mono ?_; rintro e w' ⟨rfl, rfl⟩))
  clear hmk' hc0 hf0
  obtain ⟨w2, hw2⟩ : ∃ w2 : World, w1.setCell ⟨S, i, none⟩ (.bool true) = w2 := ⟨_, rfl⟩
  have HO2 : Hid (OwnB w2 S (.slice (some ⟨S, 0, none⟩) (i + 1) (i + 1)) ((List.range (i + 1)).map (mK T i 0))) := by
    show OwnB _ _ _ _
    rw [← hw2]
    have e : (List.range (i + 1)).map (mK T i 0) = (List.replicate (i + 1) false).set i true := by
      have e0 : List.replicate (i + 1) false = (List.range (i + 1)).map fun _ => false := by
        apply List.ext_getElem?; intro k; by_cases hk : k < i + 1 <;> simp [hk, List.getElem?_replicate]
      rw [e0, set_range]
      apply List.map_congr_left
      intro k _
      show (k == i) = _
      by_cases hk : k = i <;> simp [hk]
    rw [e]
    exact HOWN.out
  have HB2 : Hid (Below w.heap.size w w2) := by
    show Below _ _ _
    rw [← hw2]; exact HB1.out.setCell (by show _ ≤ S; have := HSE.out; omega) _
  have HS2 : Hid (S < w2.heap.size) := by
    show S < _
    rw [← hw2, size_setCell]; exact HSL.out
  rw [hw2]
  clear hw2 HOWN HB1 HSL
  go_loopw [6, 7, 8, 9, 10, 11, 12, 53] (fun u6 u7 _ _ _ _ _ _ wr => ∃ (K : Int) (j : Nat) (vo : Value), vo = u6 ∧ K + j = i ∧ -1 ≤ K ∧ u7 = .int .i64 K ∧ OwnB wr S (.slice (some ⟨S, 0, none⟩) (i + 1) (i + 1)) ((List.range (i + 1)).map (mK T i j)) ∧ OwnI wr w2.heap.size vo (outK T i j) ∧ Below w.heap.size w wr ∧ w2.heap.size ≤ wr.heap.size) (fun _ K _ _ _ _ _ _ _ => (intOf K + 1).toNat)
  case atStart => exact ⟨i, 0, _, rfl, by omega, by omega, rfl, HO2.out, OwnOf.nil _ _, HB2.out, Nat.le_refl _⟩
  case round =>
    obtain ⟨K, j, vo, rfl, hKj, hK1, rfl, hseen, hout, hbw, hz⟩ := hrel
    rename_i wr
    by_cases hK : 0 ≤ K
    · obtain ⟨k, rfl⟩ := Int.eq_ofNat_of_zero_le hK
      have hk : i - j = k := by omega
      have hki : k ≤ i := by omega
      have hkI : (k : Int) < ((i + 1 : Nat) : Int) := by omega
      obtain ⟨y, hy, hcy⟩ := hseen.cell (by simp) k (by omega)
      have hy' : y = mK T i j k := by
        rw [List.getElem?_map, List.getElem?_range (by omega)] at hy
        exact (Option.some.inj hy).symm
      subst hy'
      have HK := Lib.hid hk
      have HKJ := Lib.hid hKj
      have HSEEN := Lib.hid hseen
      have HOUT := Lib.hid hout
      have HBW := Lib.hid hbw
      have HZ := Lib.hid hz
      clear hy hk hKj hseen hout hbw hz hK hK1
      rcases hm : mK T i j k with _ | _
      · rw [hm] at hcy
        have HN : Hid (∀ y, mK T i (j + 1) y = mK T i j y) := no_mark (by rw [HK.out]; exact hm)
        have HO : Hid (outK T i (j + 1) = outK T i j) := by show _ = _; rw [outK, HK.out, hm]; simp
        clear hm
        go_wp2
        go_roundw
        case rel =>
          refine ⟨(k : Int) - 1, j + 1, _, rfl, by have := HKJ.out; omega, by omega, by go_num, ?_, by rw [HO.out]; exact HOUT.out, HBW.out, HZ.out⟩
          rw [List.map_congr_left (fun y _ => HN.out y)]; exact HSEEN.out
        case measure => first | (simp [intOf]; done) | (simp [intOf]; omega)
      · rw [hm] at hcy
        have hkl : k < T.nodes.length := by have := HIL.out; omega
        have hklI : (k : Int) < (T.nodes.length : Int) := by omega
        have HO : Hid (outK T i (j + 1) = outK T i j ++ [(k : Int)]) := by show _ = _; rw [outK, HK.out, hm]; simp
        have HM : Hid (mK T i j (i - j) = true) := by show _ = _; rw [HK.out]; exact hm
        have hol : (outK T i j).length ≤ j := by
          have : ∀ j, (outK T i j).length ≤ j := fun j => by
            induction j with
            | zero => simp [outK]
            | succ j ih => rw [outK]; split <;> simp <;> omega
          exact this j
        have hj16 : j < 16384 := by have := HKJ.out; omega
        have hout := HOUT.out
        clear hm hcy
        have hc1 := (HB.out.below HBW.out).cell1
        have hcy := (HSEEN.out.cell (by simp) k (by omega))
        obtain ⟨y, hy, hcy⟩ := hcy
        have hy' : y = true := by
          rw [List.getElem?_map, List.getElem?_range (by omega)] at hy
          have := (Option.some.inj hy).symm
          rw [this, ← HK.out]; exact HM.out
        subst hy'
        clear hy
        go_wp2_with (at_builtin; go_must (refine app1 (Value.int .i64) oneInt 24 3 8 Try.underlying24 Try.info3 rfl rfl _ _ rfl _ _ _ _ hout rfl rfl ?_ ?_ ?_ ?_))
        · omega
        · omega
        · exact HZ.out
        intro v' w3 ho3 hg3
        rw [← HO.out] at ho3
        have hb3 : Below w2.heap.size wr w3 := (show Below w2.heap.size wr wr from Below.refl _ _).grown hg3 HZ.out (fun q hq => (hout.lt q hq).1)
        have HO3 := Lib.hid ho3
        have HB3 := Lib.hid (HBW.out.trans (hb3.mono (by have := HB2.out.size; omega)))
        have HSEEN3 : Hid (OwnB w3 S (.slice (some ⟨S, 0, none⟩) (i + 1) (i + 1)) ((List.range (i + 1)).map (mK T i j))) := HSEEN.out.kept hg3 (.inr (fun e => by
          have := (hout.lt S (by rw [← e]; rfl)).1; have := HS2.out; omega))
        have HZ3 : Hid (w2.heap.size ≤ w3.heap.size) := by have := HZ.out; have := hb3.size; show _ ≤ _; omega
        clear ho3 hg3 hb3 hout hc1 hcy hol
        have ht3 := HB.out.below HB3.out
        have hc1 := ht3.cell1
        obtain ⟨bn, t, hA, ht, hcell⟩ := ht3.nodes.at_ hkl
        rw [hA] at hc1
        obtain ⟨n0, n1, n2, n3, n4⟩ := hcell
        have HT := Lib.hid ht
        clear ht3 ht
        rcases hf : formF t.op with _ | ⟨⟨s0, s1, s2⟩, so⟩
        · have HN : Hid (∀ y, mK T i (j + 1) y = mK T i j y) := no_form (by rw [HK.out]; exact HT.out) hf
          have HF := Lib.hid hf
          clear hf
          go_wp2_with (go_at_call 160; go_must (refine (forms_any t.op _).mono ?_; rintro e w4 ⟨rfl, hb⟩; rw [HF.out]; dsimp only [formV]; obtain ⟨hb4, hz4, q0, q1, q2, q3, q4⟩ := box84 (t := t) hb; clear hb))
          go_roundw
          case rel =>
            have hb5 : Below w3.heap.size w3 (w4.alloc (.cells #[.int .i64 0, .int .i64 0, .int .i64 0, .int .i64 0] 162)) := hb4.trans ((below_alloc _ _).mono hb4.size)
            refine ⟨(k : Int) - 1, j + 1, _, rfl, by have := HKJ.out; omega, by omega, by go_num, ?_, HO3.out.below hb5, HB3.out.trans (hb5.mono HB3.out.size), Nat.le_trans HZ3.out hb5.size⟩
            rw [List.map_congr_left (fun y _ => HN.out y)]; exact HSEEN3.out.below hb5
          case measure => first | (simp [intOf]; done) | (simp [intOf]; omega)
        · have HTH : Hid (∀ y, sI s0 s1 s2 t.a t.b t.c (mK T i j) 3 y = mK T i (j + 1) y) := sI_three (by rw [HK.out]; exact HT.out) hf HM.out
          obtain ⟨fa0, fa1, fa2, -⟩ := fits_args_some (hw.fit k t HT.out) hf
          have harg : ∀ n, n < 3 → sAt s0 s1 s2 n ≠ -1 → ∃ x : Nat, sAt t.a t.b t.c n = (x : Int) ∧ x < i + 1 := fun n hn hs => by
            have key : ∀ (so y : Int), argOk ⟨T.width, T.nodes.take k⟩ so y = true → so ≠ -1 → ∃ x : Nat, y = (x : Int) ∧ x < i + 1 := fun so y ho hs => by
              obtain ⟨x, t', h1, h2, _⟩ := argOk_node ho hs
              have := (List.getElem?_eq_some_iff.1 h2).1
              rw [List.length_take] at this
              exact ⟨x, h1, by omega⟩
            rcases three_cases hn with rfl | rfl | rfl
            · exact key _ _ fa0 hs
            · exact key _ _ fa1 hs
            · exact key _ _ fa2 hs
          have hix : ∀ k : Nat, k < 3 → ∀ w, (Instr.index 82 (.agg #[.int .i64 s0, .int .i64 s1, .int .i64 s2]) (.int .i64 (k : Int))).run Try.prog w = .ok (.int .i64 (sAt s0 s1 s2 k)) w := fun k hk => by
            rcases three_cases hk with rfl | rfl | rfl <;> exact fun w => by kernel_rfl
          have HIX := Lib.hid hix
          have HARG := Lib.hid harg
          have HF := Lib.hid hf
          clear hf harg hix fa0 fa1 fa2
          go_wp2_with (go_at_call 160; go_must (refine (forms_any t.op _).mono ?_; rintro e w4 ⟨rfl, hb⟩; rw [HF.out]; dsimp only [formV]; obtain ⟨hb4, hz4, q0, q1, q2, q3, q4⟩ := box84 (t := t) hb; have HB4B := Lib.hid ((hb.block w3.heap.size (by simp)).trans (heap_alloc_new w3 _)); clear hb))
          have hq : ∀ n : Nat, n < 3 → (w4.alloc (.cells #[.int .i64 s0, .int .i64 s1, .int .i64 s2, .int .i64 so] 162)).cell? ⟨w3.heap.size, 2 + n, none⟩ = some (.int .i64 (sAt t.a t.b t.c n)) := fun n hn => by
            have al : ∀ (q : Addr) (u : Value), w4.cell? q = some u → (w4.alloc (.cells #[.int .i64 s0, .int .i64 s1, .int .i64 s2, .int .i64 so] 162)).cell? q = some u := fun q u h => (World.cell?_alloc_lt w4 _ q (cell_lt h)).trans h
            rcases three_cases hn with rfl | rfl | rfl
            · exact al _ _ q2
            · exact al _ _ q3
            · exact al _ _ q4
          have hb5 : Below w3.heap.size w3 (w4.alloc (.cells #[.int .i64 s0, .int .i64 s1, .int .i64 s2, .int .i64 so] 162)) := hb4.trans ((below_alloc _ _).mono hb4.size)
          obtain ⟨w5, hw5⟩ : ∃ w5 : World, w4.alloc (.cells #[.int .i64 s0, .int .i64 s1, .int .i64 s2, .int .i64 so] 162) = w5 := ⟨_, rfl⟩
          have hbx : (w4.alloc (.cells #[.int .i64 s0, .int .i64 s1, .int .i64 s2, .int .i64 so] 162)).heap[w3.heap.size]? = some (.cells #[.int .i64 t.op, .int .i64 t.v, .int .i64 t.a, .int .i64 t.b, .int .i64 t.c] 84 (0, 0)) :=
            (Below.heap_alloc w4 _ _ hz4).trans HB4B.out
          rw [hw5] at hq hb5 hbx ⊢
          have HQ := Lib.hid hq
          have HB5 := Lib.hid hb5
          have HBX := Lib.hid hbx
          have HS5 := Lib.hid (HSEEN3.out.below hb5)
          have HO5 := Lib.hid (HO3.out.below hb5)
          clear hq hb5 hw5 q0 q1 q2 q3 q4 hb4 hz4 hbx n0 n1 n2 n3 n4 hc1
          go_loopw [11, 12, 53] (fun _ _ u wr => ∃ n : Nat, n ≤ 3 ∧ u = .int .i64 n ∧ OwnB wr S (.slice (some ⟨S, 0, none⟩) (i + 1) (i + 1)) ((List.range (i + 1)).map (sI s0 s1 s2 t.a t.b t.c (mK T i j) n)) ∧ Fr S [4] [] w5 wr) (fun _ _ u _ => 3 - (intOf u).toNat)
          case atStart => exact ⟨0, by omega, rfl, HS5.out, Fr.refl _ _ _ _⟩
          case round =>
            obtain ⟨n, hn, rfl, hseen, hfr⟩ := hrel
            have HSEEN := Lib.hid hseen
            have HFR := Lib.hid hfr
            by_cases hlt : n < 3
            · have hix := HIX.out n hlt
              have hq := (World.cell?_of_block ((hfr.block _ _ HBX.out (fun h => by have := h.2; simp [turns] at this)).trans HBX.out.symm)).trans (HQ.out n hlt)
              have harg := HARG.out n hlt
              have hn3 : (n : Int) < 3 := by omega
              have HNX : Hid (∀ y, sI s0 s1 s2 t.a t.b t.c (mK T i j) (n + 1) y = (sI s0 s1 s2 t.a t.b t.c (mK T i j) n y || (decide (sAt s0 s1 s2 n ≠ -1) && decide (y = (sAt t.a t.b t.c n).toNat)))) := fun y => rfl
              clear hseen hfr
              generalize sAt s0 s1 s2 n = sn at hix harg HNX
              generalize sAt t.a t.b t.c n = xn at hq harg HNX
              by_cases hsn : sn = -1
              · have e1 : (sn != -1) = false := by rw [hsn]; rfl
                have HNY : Hid ((List.range (i + 1)).map (sI s0 s1 s2 t.a t.b t.c (mK T i j) (n + 1)) = (List.range (i + 1)).map (sI s0 s1 s2 t.a t.b t.c (mK T i j) n)) := List.map_congr_left fun y _ => by rw [HNX.out y, hsn]; simp
                clear hsn harg
                go_wp2
                go_roundw
                case rel => exact ⟨n + 1, by omega, by go_num, by rw [HNY.out]; exact HSEEN.out, HFR.out⟩
                case measure => simp [intOf]; omega
              · obtain ⟨x, rfl, hx⟩ := harg hsn
                have e1 : (sn != -1) = true := by rw [bne_iff_ne]; exact hsn
                have hxI : (x : Int) < ((i + 1 : Nat) : Int) := by omega
                obtain ⟨y0, _, hcs⟩ := HSEEN.out.cell (by simp) x hx
                have hfs := HSEEN.out.frozen (by simp) x
                have HNY : Hid ((List.range (i + 1)).map (sI s0 s1 s2 t.a t.b t.c (mK T i j) (n + 1)) = ((List.range (i + 1)).map (sI s0 s1 s2 t.a t.b t.c (mK T i j) n)).set x true) := by
                  show _ = _
                  rw [set_range]
                  exact List.map_congr_left fun y _ => by rw [HNX.out y]; simp [hsn]
                obtain ⟨csS, hcsS⟩ := HSEEN.out.blk
                have HCS := Lib.hid hcsS
                clear hsn hcsS
                go_wp2
                go_roundw
                case rel => exact ⟨n + 1, by omega, by go_num, by rw [HNY.out]; exact HSEEN.out.set (by simp) x true, HFR.out.setCell (p := ⟨S, x, none⟩) HCS.out (by simp) (Nat.le_refl _) _⟩
                case measure => simp [intOf]; omega
            · obtain rfl : n = 3 := by omega
              have h3 := hseen
              rw [List.map_congr_left (fun y _ => HTH.out y)] at h3
              have HSE3 := Lib.hid h3
              clear hseen hfr h3
              go_wp2
              go_roundw
              case rel =>
                refine ⟨(k : Int) - 1, j + 1, _, rfl, by have := HKJ.out; omega, by omega, by go_num, HSE3.out, HO5.out.fr HFR.out (by decide), ?_, ?_⟩
                · have h1 := HFR.out.below (by have := HS2.out; have := HZ3.out; have := HB5.out.size; omega)
                  exact (HB3.out.trans (HB5.out.mono HB3.out.size)).trans (h1.mono (by have := HSE.out; omega))
                · have := HFR.out.size; have := HB5.out.size; have := HZ3.out; omega
              case measure => first | (simp [intOf]; done) | (simp [intOf]; omega)
    · obtain rfl : K = -1 := by omega
      obtain rfl : j = i + 1 := by omega
      have hne : 0 < (outK T i (i + 1)).length := by
        have h1 := congrArg List.length (outK_parts (i := i) hw)
        rw [List.length_reverse, List.length_map] at h1
        rw [h1]
        exact List.length_pos_of_mem (List.mem_filter.2 ⟨List.mem_range.2 (Nat.lt_succ_self i), mF_self hw⟩)
      have hlen : (outK T i (i + 1)).length ≤ i + 1 := by
        have : ∀ j, (outK T i j).length ≤ j := fun j => by
          induction j with
          | zero => simp [outK]
          | succ j ih => rw [outK]; split <;> simp <;> omega
        exact this _
      obtain ⟨G, cg, hv, hG⟩ := hout.form hne
      subst hv
      have HP : Hid ((outK T i (i + 1)).reverse = (partsN T i).map fun k => ((k : Nat) : Int)) := outK_parts hw
      have HOUT := Lib.hid hout
      have HBW := Lib.hid hbw
      have HZ := Lib.hid hz
      obtain ⟨L, hL⟩ : ∃ L, (outK T i (i + 1)).length = L := ⟨_, rfl⟩
      have HL := Lib.hid hL
      rw [hL] at hlen ⊢
      rw [hL] at HOUT
      clear hseen hout hbw hz hK hKj hK1 hne hL
      go_wp2_with (go_at_call 161; go_must (refine (reverse_own HOUT.out HL.out (by omega)).mono ?_; rintro e w6 ⟨rfl, ho6, hg6⟩; have HO6 := Lib.hid ho6; have HG6 := Lib.hid hg6; clear ho6 hg6))
      go_ret
      refine ⟨_, rfl, ?_, HBW.out.grown HG6.out HBW.out.size (fun q hq => ?_)⟩
      · rw [← HP.out]
        have := HO6.out.mono (show w.heap.size ≤ w2.heap.size from HB2.out.size)
        exact this
      · cases hq
        have := HB2.out.size; omega
end
end Go.Proofs.Ytgmcajojigedaaa
