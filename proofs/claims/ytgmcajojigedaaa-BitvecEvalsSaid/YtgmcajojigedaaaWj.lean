/- The reference of chapter 22: Size, Inputs, Build; counting of the law (printed by genwj.py). The reference of chapter 22: Build; counting of the law; contracts at any number (printed by genwk.py). -/
import Derived.Test.YtgmcajojigedaaaWh
import Derived.Test.YtgmcajojigedaaaBase
import Derived.Test.YtgmcajojigedaaaTo
set_option linter.unusedSimpArgs false
set_option linter.unusedVariables false
namespace Go.Proofs.Ytgmcajojigedaaa
open Go.RowKit

section
variable {A : Option Addr} {c : Nat} {T : TS} {w : World}
theorem box66 (w : World) (x y : Value) : (w.alloc (.cells #[x, y] 66)).cell? ⟨w.heap.size, 0, none⟩ = some x ∧ (w.alloc (.cells #[x, y] 66)).cell? ⟨w.heap.size, 1, none⟩ = some y := ⟨z_cell w _ _ 0, z_cell w _ _ 1⟩
set_option maxRecDepth 100000 in
set_option maxHeartbeats 1000000 in
theorem rsize_any (hs : SlT w A c T.nodes) (hw : TWf T) (i : Int) :
    Calls Try.prog 80 #[.agg #[.int .i64 T.width, .slice A T.nodes.length c], .int .i64 i] w fun e w' => e = .returned (.int .i64 ((partsF T i).length : Int)) ∧ Below w.heap.size w w' := by
  have hsz := hw.size
  have HS := Lib.hid hs
  have hb0 := below_alloc w (.cells #[.int .i64 T.width, .slice A T.nodes.length c] 66)
  have HB0 := Lib.hid hb0
  have HC : Hid (cntK T i T.nodes.length = (partsF T i).length) := cntK_all hw
  clear hs hb0
  go_enter Try.func80, Try.ntmps80
  go_wp2_with (go_at_call 115; go_must (refine (marks_any (HS.out.below HB0.out) hw i).mono ?_; rintro e w1 ⟨v1, rfl, ho1, hb1⟩; obtain ⟨A1, c1, rfl, hsm⟩ := ho1.sl 0; rw [List.length_map, List.length_range]; have HSM := Lib.hid hsm; have HB1 := Lib.hid hb1; clear ho1 hb1 hsm))
  go_loop [5, 7] (fun u5 u7 => ∃ k : Nat, k ≤ T.nodes.length ∧ u7 = .int .i64 k ∧ u5 = .int .i64 (cntK T i k : Nat)) (fun _ u7 => T.nodes.length - (intOf u7).toNat)
  case atStart => exact ⟨0, Nat.zero_le _, rfl, rfl⟩
  case round =>
    obtain ⟨k, hk, rfl, rfl⟩ := hrel
    by_cases hlt : k < T.nodes.length
    · have hltI : (k : Int) < (T.nodes.length : Int) := by omega
      obtain ⟨bm, om, xm, hA1, hxm, hcm⟩ := HSM.out.at_ (k := k) (by simp; omega)
      rw [List.getElem?_map, List.getElem?_range hlt] at hxm
      have hxm := Option.some.inj hxm
      subst hA1
      have hle := cntK_le (T := T) (i := i) k
      have HN : Hid (cntK T i (k + 1) = cntK T i k + (if mrk T i k then 1 else 0)) := cntK_succ k
      obtain ⟨n, hn⟩ : ∃ n, cntK T i k = n := ⟨_, rfl⟩
      rw [hn] at HN hle ⊢
      obtain ⟨b, hb⟩ : ∃ b, mrk T i k = b := ⟨_, rfl⟩
      rw [hb] at HN hxm
      subst hxm
      clear hn hb
      cases b with
      | false =>
        go_wp2
        go_round
        case rel => exact ⟨k + 1, by omega, by go_num, by rw [HN.out]; simp⟩
        case measure => simp [intOf]; omega
      | true =>
        go_wp2
        go_round
        case rel => exact ⟨k + 1, by omega, by go_num, by rw [HN.out]; simp⟩
        case measure => simp [intOf]; omega
    · obtain rfl : k = T.nodes.length := by omega
      go_wp2
      go_ret
      exact ⟨by rw [HC.out]; rfl, HB0.out.trans (HB1.out.mono HB0.out.size)⟩
set_option maxRecDepth 100000 in
set_option maxHeartbeats 4000000 in
theorem rinputs_any (hs : SlT w A c T.nodes) (hw : TWf T) (i : Int) :
    Calls Try.prog 79 #[.agg #[.int .i64 T.width, .slice A T.nodes.length c], .int .i64 i] w (InpRet w (inputsF T (partsF T i))) := by
  have hsz := hw.size
  have HS := Lib.hid hs
  have HC : Hid (inpK T i 24 = inputsF T (partsF T i)) := inpK_all hw
  have hb0 := below_alloc w (.cells #[.int .i64 T.width, .slice A T.nodes.length c] 66)
  have hbx := heap_alloc_new w (.cells #[.int .i64 T.width, .slice A T.nodes.length c] 66)
  have hz0 : (w.alloc (.cells #[.int .i64 T.width, .slice A T.nodes.length c] 66)).heap.size = w.heap.size + 1 := by simp
  have hown0 := own_new (Value.int .i64) 3 (w.alloc (.cells #[.int .i64 T.width, .slice A T.nodes.length c] 66)) (w.alloc (.cells #[.int .i64 T.width, .slice A T.nodes.length c] 66)).heap.size (Nat.le_refl _) [] (by simp)
  have hb1 := below_alloc (w.alloc (.cells #[.int .i64 T.width, .slice A T.nodes.length c] 66)) (.cells #[] 3)
  have HB1 : Hid (Below w.heap.size w ((w.alloc (.cells #[.int .i64 T.width, .slice A T.nodes.length c] 66)).alloc (.cells #[] 3))) := hb0.trans (hb1.mono (by simp))
  have HX1 : Hid (((w.alloc (.cells #[.int .i64 T.width, .slice A T.nodes.length c] 66)).alloc (.cells #[] 3)).heap[w.heap.size]? = some (.cells #[.int .i64 T.width, .slice A T.nodes.length c] 66 (0, 0))) := (hb1.block _ (by simp)).trans hbx
  have HO1 : Hid (OwnI ((w.alloc (.cells #[.int .i64 T.width, .slice A T.nodes.length c] 66)).alloc (.cells #[] 3)) (w.heap.size + 1) (.slice (some ⟨w.heap.size + 1, 0, none⟩) 0 0) []) := by
    show OwnI _ _ _ _
    rw [hz0] at hown0
    exact hown0
  clear hs hb0 hbx hz0 hown0 hb1
  go_enter Try.func79, Try.ntmps79
  go_wp2_with (go_at_call 115; go_must (refine (marks_any (HS.out.below HB1.out) hw i).mono ?_; rintro e w1 ⟨v1, rfl, ho1, hb1⟩; obtain ⟨A1, c1, rfl, hsm⟩ := ho1.sl 0; rw [List.length_map, List.length_range]; have HSM := Lib.hid hsm; have HB2 := Lib.hid hb1; clear ho1 hb1 hsm))
  have hz1 : ((w.alloc (.cells #[.int .i64 T.width, .slice A T.nodes.length c] 66)).alloc (.cells #[] 3)).heap.size = w.heap.size + 2 := by simp
  have HX2 : Hid (w1.heap[w.heap.size]? = some (.cells #[.int .i64 T.width, .slice A T.nodes.length c] 66 (0, 0))) := (HB2.out.block _ (by simp; omega)).trans HX1.out
  have HO2 : Hid (OwnI w1 (w.heap.size + 1) (.slice (some ⟨w.heap.size + 1, 0, none⟩) 0 0) (inpK T i 0)) := HO1.out.below HB2.out
  have HBW : Hid (Below w.heap.size w w1) := HB1.out.trans (HB2.out.mono (by simp; omega))
  have HS1 : Hid (SlT w1 A c T.nodes) := HS.out.below HBW.out
  have HZ1 : Hid (w.heap.size + 2 ≤ w1.heap.size) := by have := HB2.out.size; rw [hz1] at this; exact this
  clear hz1 HB1 HB2 HX1 HO1
  go_loopw [5, 7, 8, 9] (fun u5 u7 _ _ wr => ∃ (n : Nat) (vo : Value), vo = u5 ∧ n ≤ 24 ∧ u7 = .int .i64 n ∧ OwnI wr (w.heap.size + 1) vo (inpK T i n) ∧ Below (w.heap.size + 1) w1 wr ∧ w1.heap.size ≤ wr.heap.size ∧ SlB wr 0 A1 c1 ((List.range T.nodes.length).map (mrk T i))) (fun _ u7 _ _ _ => 24 - (intOf u7).toNat)
  case atStart => exact ⟨0, _, rfl, by omega, rfl, HO2.out, Below.refl _ _, Nat.le_refl _, HSM.out⟩
  case round =>
    obtain ⟨n, vo, rfl, hn, rfl, hout, hbw, hz, hsm⟩ := hrel
    rename_i wr
    have HOUT := Lib.hid hout
    have HBR := Lib.hid hbw
    have HZR := Lib.hid hz
    have HSM2 := Lib.hid hsm
    by_cases hlt : n < 24
    · have hltI : (n : Int) < 24 := by omega
      have hbx : wr.heap[w.heap.size]? = some (.cells #[.int .i64 T.width, .slice A T.nodes.length c] 66 (0, 0)) := (hbw.block _ (by omega)).trans HX2.out
      have c1' : wr.cell? ⟨w.heap.size, 1, none⟩ = some (.slice A T.nodes.length c) := by simp [World.cell?, hbx]
      have HC1 := Lib.hid c1'
      have HSR : Hid (SlT wr A c T.nodes) := HS.out.below (HBW.out.trans (hbw.mono (by omega)))
      clear hout hbw hz hsm hbx c1'
      go_wp2
      go_loop [8, 9] (fun u8 u9 => ∃ k : Nat, k ≤ T.nodes.length ∧ u9 = .int .i64 k ∧ u8 = .bool (fndK T i n k)) (fun _ u9 => T.nodes.length - (intOf u9).toNat)
      case atStart => exact ⟨0, Nat.zero_le _, rfl, rfl⟩
      case round =>
        obtain ⟨k, hk, rfl, rfl⟩ := hrel
        by_cases hlk : k < T.nodes.length
        · have hlkI : (k : Int) < (T.nodes.length : Int) := by omega
          obtain ⟨bm, om, xm, hA1, hxm, hcm⟩ := HSM2.out.at_ (k := k) (by simp; omega)
          rw [List.getElem?_map, List.getElem?_range hlk] at hxm
          have hxm := Option.some.inj hxm
          subst hA1
          obtain ⟨t, ht⟩ : ∃ t, T.nodes[k]? = some t := ⟨_, List.getElem?_eq_getElem hlk⟩
          have HN : Hid (fndK T i n (k + 1) = (fndK T i n k || (mrk T i k && decide (isInp T k = some (n : Int))))) := fndK_succ n k
          have hin : isInp T k = if t.op = 0 ∨ t.op = 1 then some t.v else none := by unfold isInp; rw [ht]
          rw [hin] at HN
          obtain ⟨f, hf⟩ : ∃ f, fndK T i n k = f := ⟨_, rfl⟩
          rw [hf] at HN ⊢
          obtain ⟨b, hb⟩ : ∃ b, mrk T i k = b := ⟨_, rfl⟩
          rw [hb] at HN hxm
          subst hxm
          obtain ⟨bn, on, hA, hcell⟩ := HSR.out.2.2 (by omega)
          obtain ⟨n0, n1, n2, n3, n4⟩ := hcell k t ht
          have hc1 := HC1.out
          rw [hA] at hc1
          obtain ⟨op, v, x0, x1, x2⟩ := t
          dsimp only at n0 n1 n2 n3 n4 HN
          clear hf hb hin ht hcell hA
          cases b with
          | false =>
            have HN' : Hid (fndK T i n (k + 1) = f) := by show _ = _; rw [HN.out]; simp
            go_wp2
            go_round
            case rel => exact ⟨k + 1, by omega, by go_num, by rw [HN'.out]⟩
            case measure => simp [intOf]; omega
          | true =>
            by_cases h0 : op = 0
            · subst h0
              by_cases hv : v = (n : Int)
              · subst hv
                have HN' : Hid (fndK T i n (k + 1) = true) := by show _ = _; rw [HN.out]; simp
                go_wp2
                go_round
                case rel => exact ⟨k + 1, by omega, by go_num, by rw [HN'.out]⟩
                case measure => simp [intOf]; omega
              · have HN' : Hid (fndK T i n (k + 1) = f) := by show _ = _; rw [HN.out]; simp [hv]
                have ev : (v == (n : Int)) = false := beq_eq_false_iff_ne.2 hv
                clear hv
                go_wp2
                go_round
                case rel => exact ⟨k + 1, by omega, by go_num, by rw [HN'.out]⟩
                case measure => simp [intOf]; omega
            · have e0 : (op == 0) = false := beq_eq_false_iff_ne.2 h0
              by_cases h1 : op = 1
              · subst h1
                clear h0
                by_cases hv : v = (n : Int)
                · subst hv
                  have HN' : Hid (fndK T i n (k + 1) = true) := by show _ = _; rw [HN.out]; simp
                  go_wp2
                  go_round
                  case rel => exact ⟨k + 1, by omega, by go_num, by rw [HN'.out]⟩
                  case measure => simp [intOf]; omega
                · have HN' : Hid (fndK T i n (k + 1) = f) := by show _ = _; rw [HN.out]; simp [hv]
                  have ev : (v == (n : Int)) = false := beq_eq_false_iff_ne.2 hv
                  clear hv
                  go_wp2
                  go_round
                  case rel => exact ⟨k + 1, by omega, by go_num, by rw [HN'.out]⟩
                  case measure => simp [intOf]; omega
              · have e1 : (op == 1) = false := beq_eq_false_iff_ne.2 h1
                have HN' : Hid (fndK T i n (k + 1) = f) := by show _ = _; rw [HN.out]; simp [h0, h1]
                clear h0 h1
                go_wp2
                go_round
                case rel => exact ⟨k + 1, by omega, by go_num, by rw [HN'.out]⟩
                case measure => simp [intOf]; omega
        · obtain rfl : k = T.nodes.length := by omega
          have HI : Hid (inpK T i (n + 1) = inpK T i n ++ (if fndK T i (n : Int) T.nodes.length then [(n : Int)] else [])) := inpK_succ n
          have hil := inpK_len (T := T) (i := i) n
          obtain ⟨f, hf⟩ : ∃ f, fndK T i n T.nodes.length = f := ⟨_, rfl⟩
          rw [hf] at HI ⊢
          clear hf
          cases f with
          | false =>
            have HI' : Hid (inpK T i (n + 1) = inpK T i n) := by show _ = _; rw [HI.out]; simp
            go_wp2
            go_roundw
            case rel => exact ⟨n + 1, _, rfl, by omega, by go_num, by rw [HI'.out]; exact HOUT.out, HBR.out, HZR.out, HSM2.out⟩
            case measure => simp [intOf]; omega
          | true =>
            have HI' : Hid (inpK T i (n + 1) = inpK T i n ++ [(n : Int)]) := by show _ = _; rw [HI.out]; simp
            have hout := HOUT.out
            go_wp2_with (at_builtin; go_must (refine app1 (Value.int .i64) oneInt 24 3 8 Try.underlying24 Try.info3 rfl rfl _ _ rfl _ _ _ _ hout rfl rfl ?_ ?_ ?_ ?_))
            · omega
            · omega
            · have := HZR.out; have := HZ1.out; omega
            intro v' w3 ho3 hg3
            rw [← HI'.out] at ho3
            have hb3 : Below (w.heap.size + 1) wr w3 := (show Below (w.heap.size + 1) wr wr from Below.refl _ _).grown hg3 (by have := HZR.out; have := HZ1.out; omega) (fun q hq => (hout.lt q hq).1)
            have HB3 := Lib.hid (HBR.out.trans hb3)
            have HO3 := Lib.hid ho3
            have HZ3 : Hid (w1.heap.size ≤ w3.heap.size) := Nat.le_trans HZR.out hb3.size
            have HSM3 : Hid (SlB w3 0 A1 c1 ((List.range T.nodes.length).map (mrk T i))) := by
              exact HSM2.out.grown hg3 (fun g hg => ⟨Nat.zero_le _, fun _ => let ⟨cs, h⟩ := hout.typed g hg; ⟨cs, 3, (0, 0), h, by decide⟩⟩)
            clear hout ho3 hg3 hb3
            go_wp2
            go_roundw
            case rel => exact ⟨n + 1, _, rfl, by omega, by go_num, HO3.out, HB3.out, HZ3.out, HSM3.out⟩
            case measure => simp [intOf]; omega
    · obtain rfl : n = 24 := by omega
      clear hout hbw hz hsm
      go_wp2
      go_ret
      exact ⟨_, rfl, by rw [← HC.out]; exact HOUT.out.mono (by omega), HBW.out.trans (HBR.out.mono (by omega))⟩

end
end Go.Proofs.Ytgmcajojigedaaa
namespace Go.Proofs.Ytgmcajojigedaaa
open Go.RowKit

theorem results_cell1 {fn : Func} {p : Tmp} {ty : TypeId} (h : fn.results = #[.cell p ty]) {tmps : Array Value} {P : Program} {w : World} {a : Addr} {x : Value} (hp : tmps.getD p undef = .pointer (some a)) (hl : (loadVar ty a).run P w = .ok x w) :
    (results fn tmps).run P w = .ok x w := by
  have hp' : tmps[p]?.getD undef = .pointer (some a) := by simpa using hp
  simp only [results, h]
  simp [Sem.run_bind, Result.andThen, asAddr, hp', hl]
theorem SlT.drewN {w : World} {A : Option Addr} {c : Nat} {l : List Tm} (h : SlT w A c l) (n : Nat) : SlT (w.drewN n) A c l := h
/-- A table of the reference lies still where no block of its own turns. -/
theorem SlT.keepr {w w' : World} {A : Option Addr} {c : Nat} {l : List Tm} (h : SlT w A c l) (hk : ∀ b, A = some ⟨b, 0, none⟩ → w'.heap[b]? = w.heap[b]?) (hA : RA A c) : SlT w' A c l := by
  refine ⟨h.1, h.2.1, fun hn => ?_⟩
  obtain ⟨b, o, he, hc⟩ := h.2.2 hn
  refine ⟨b, o, he, fun k t hkt => ?_⟩
  have hb : w'.heap[b]? = w.heap[b]? := by
    rcases hA with ⟨h0, _⟩ | ⟨b', h1⟩
    · rw [he] at h0; cases h0
    · have e := he.symm.trans h1
      cases e
      exact hk _ he
  obtain ⟨a0, a1, a2, a3, a4⟩ := hc k t hkt
  have key : ∀ o v, w.cell? ⟨b, o, none⟩ = some v → w'.cell? ⟨b, o, none⟩ = some v := fun o v h => (World.cell?_of_block (w := w) hb).trans h
  exact ⟨key _ _ a0, key _ _ a1, key _ _ a2, key _ _ a3, key _ _ a4⟩
theorem two_heap {W : World} {b t : Nat} {c0 c1 : Value} (x y : Value) (hb : W.heap[b]? = some (.cells #[c0, c1] t (0, 0))) : ((W.setCell ⟨b, 0, none⟩ x).setCell ⟨b, 1, none⟩ y).heap[b]? = some (.cells #[x, y] t (0, 0)) := by
  rw [setCell_eq_setRow W b 0 _ t (0, 0) x hb]
  have h2 := setRow_heap W b _ (#[c0, c1].setIfInBounds 0 x) t (0, 0) hb
  rw [setCell_eq_setRow _ b 1 _ t (0, 0) y h2]
  exact setRow_heap _ b _ _ t (0, 0) h2
def RBuildRet (w : World) (a : Int) (T : TS) (e : Ending) (w' : World) : Prop :=
  ∃ A c, e = .returned (.agg #[.int .i64 a, .slice A T.nodes.length c]) ∧ SlT w' A c T.nodes ∧ RA A c ∧ Below w.heap.size w w'
/-- What holds at the head of Build's loop. -/
structure RB (a : Int) (T : TS) (w wr : World) (Ar : Option Addr) (cr : Nat) : Prop where
  box : wr.heap[w.heap.size + 1]? = some (.cells #[.int .i64 a, .slice Ar T.nodes.length cr] 66 (0, 0))
  res : wr.heap[w.heap.size]? = some (.cells #[.int .i64 0, .slice none 0 0] 66 (0, 0))
  sl : SlT wr Ar cr T.nodes
  ra : RA Ar cr
  sep : ∀ b, Ar = some ⟨b, 0, none⟩ → b ≠ w.heap.size ∧ b ≠ w.heap.size + 1 ∧ b < wr.heap.size
  bel : Below w.heap.size w wr
theorem RB.set {a : Int} {T T' : TS} {w wr w5 : World} {Ar A5 : Option Addr} {cr c5 : Nat} (h : RB a T w wr Ar cr) (hb : Below wr.heap.size wr w5) (hs : SlT w5 A5 c5 T'.nodes)
    (hn : (A5 = Ar ∧ c5 = cr) ∨ ∃ g, A5 = some ⟨g, 0, none⟩ ∧ wr.heap.size ≤ g ∧ g < w5.heap.size) :
    RB a T' w ((w5.setCell ⟨w.heap.size + 1, 0, none⟩ (.int .i64 a)).setCell ⟨w.heap.size + 1, 1, none⟩ (.slice A5 T'.nodes.length c5)) A5 c5 := by
  have hx := (hb.block _ (lt_of_some h.box)).trans h.box
  have hr := (hb.block _ (lt_of_some h.res)).trans h.res
  have hz : ((w5.setCell ⟨w.heap.size + 1, 0, none⟩ (.int .i64 a)).setCell ⟨w.heap.size + 1, 1, none⟩ (.slice A5 T'.nodes.length c5)).heap.size = w5.heap.size := by simp [World.setCell]
  have hlt := lt_of_some h.box
  have hsep : ∀ b, A5 = some ⟨b, 0, none⟩ → b ≠ w.heap.size ∧ b ≠ w.heap.size + 1 ∧ b < w5.heap.size := fun b e => by
    rcases hn with ⟨rfl, rfl⟩ | ⟨g, rfl, h1, h2⟩
    · obtain ⟨h1, h2, h3⟩ := h.sep b e
      exact ⟨h1, h2, Nat.lt_of_lt_of_le h3 hb.size⟩
    · cases e; exact ⟨by omega, by omega, h2⟩
  have hra : RA A5 c5 := by
    rcases hn with ⟨rfl, rfl⟩ | ⟨g, rfl, h1, h2⟩
    · exact h.ra
    · exact .inr ⟨g, rfl⟩
  refine ⟨two_heap _ _ hx, ?_, ?_, hra, fun b e => by rw [hz]; exact hsep b e, ?_⟩
  · rw [Below.heap_setCell _ _ _ _ (by show _ ≠ w.heap.size + 1; omega), Below.heap_setCell _ _ _ _ (by show _ ≠ w.heap.size + 1; omega)]
    exact hr
  · refine hs.keepr (fun b e => ?_) hra
    obtain ⟨h1, h2, h3⟩ := hsep b e
    rw [Below.heap_setCell _ _ _ _ (by show _ ≠ w.heap.size + 1; omega), Below.heap_setCell _ _ _ _ (by show _ ≠ w.heap.size + 1; omega)]
  · exact ((h.bel.trans (hb.mono h.bel.size)).setCell (p := ⟨w.heap.size + 1, 0, none⟩) (by show _ ≤ w.heap.size + 1; omega) _).setCell (p := ⟨w.heap.size + 1, 1, none⟩) (by show _ ≤ w.heap.size + 1; omega) _

set_option maxRecDepth 100000 in
set_option maxHeartbeats 4000000 in
theorem rbuild_yes (a : Int) (l : List Tm) (A : Option Addr) (c : Nat) (w : World) (h1 : 2 ≤ a) (h2 : a ≤ 8) (hs : SlT w A c l) :
    Calls Try.prog 53 #[.int .i64 a, .slice A l.length c] w (RBuildRet w a (buildF a l)) := by
  have hbig := hs.big
  have HS := Lib.hid hs
  have hrb0 : RB a (buildK a l 0) w ((w.alloc (.cells #[.int .i64 0, .slice none 0 0] 66)).alloc (.cells #[.int .i64 a, .slice none 0 0] 66)) none 0 := by
    have h1 := below_alloc w (.cells #[.int .i64 0, .slice none 0 0] 66)
    have h2 := below_alloc (w.alloc (.cells #[.int .i64 0, .slice none 0 0] 66)) (.cells #[.int .i64 a, .slice none 0 0] 66)
    have e1 := heap_alloc_new (w.alloc (.cells #[.int .i64 0, .slice none 0 0] 66)) (.cells #[.int .i64 a, .slice none 0 0] 66)
    rw [show (w.alloc (.cells #[.int .i64 0, .slice none 0 0] 66)).heap.size = w.heap.size + 1 by simp] at e1
    exact ⟨e1, (h2.block _ (by simp)).trans (heap_alloc_new w _), ⟨Nat.le_refl _, by omega, fun h => absurd h (by simp [buildK])⟩, .inl ⟨rfl, rfl⟩, fun b e => (by cases e), h1.trans (h2.mono (by simp))⟩
  have HRB0 := Lib.hid hrb0
  clear hs hrb0
  go_enter Try.func53, Try.ntmps53
  go_wp2
  go_loopw [6, 15] (fun u _ wr => ∃ (W : World) (k : Nat), W = wr ∧ k ≤ l.length ∧ u = .int .i64 k ∧ ∃ Ar cr, RB a (buildK a l k) w W Ar cr) (fun u _ _ => l.length - (intOf u).toNat)
  case atStart => exact ⟨_, 0, rfl, Nat.zero_le _, rfl, none, 0, HRB0.out⟩
  case round =>
    obtain ⟨wr, k, rfl, hk, rfl, Ar, cr, hrb⟩ := hrel
    have WF := Lib.hid (buildK_wf h1 h2 l k)
    have hwid : (buildK a l k).width = a := buildF_width a (l.take k)
    by_cases hlt : k < l.length
    · have hx : l[k]? = some l[k] := List.getElem?_eq_getElem hlt
      obtain ⟨bb, o, hA, hcell⟩ := (HS.out.below hrb.bel).2.2 (by omega)
      obtain ⟨t, htk⟩ : ∃ t, l[k] = t := ⟨_, rfl⟩
      rw [htk] at hx
      obtain ⟨n0, n1, n2, n3, n4⟩ := hcell k t hx
      have HN : Hid (buildK a l (k + 1) = (makeF (buildK a l k) t).1) := buildK_succ hx
      have hltI : (k : Int) < (l.length : Int) := by omega
      obtain ⟨op, v, x, y, z⟩ := t
      dsimp only at n0 n1 n2 n3 n4
      obtain ⟨T, hT⟩ : ∃ T, buildK a l k = T := ⟨_, rfl⟩
      rw [hT] at hrb WF hwid HN
      obtain ⟨T1, k1, e1, hR⟩ : ∃ T1 k1 e1, makeF T ⟨op, v, x, y, z⟩ = (T1, k1, e1) := ⟨_, _, _, rfl⟩
      have hwid1 : T1.width = a := by have := makeF_width T ⟨op, v, x, y, z⟩; rw [hR] at this; exact this.trans hwid
      rw [hR] at HN
      have hrm := fun (w4 : World) (h : SlT w4 Ar cr T.nodes) => rmake_any h hrb.ra WF.out ⟨op, v, x, y, z⟩
      rw [hwid, hR] at hrm
      have HRM := Lib.hid hrm
      have HW1 := Lib.hid hwid1
      have HRB := Lib.hid hrb
      have HBX : Hid (wr.heap[w.heap.size + 1]? = some (.cells #[.int .i64 a, .slice Ar T.nodes.length cr] 66 (0, 0))) := hrb.box
      have HBY : Hid (wr.heap[w.heap.size]? = some (.cells #[.int .i64 0, .slice none 0 0] 66 (0, 0))) := hrb.res
      have SLR : Hid (SlT wr Ar cr T.nodes) := hrb.sl
      have p0 : wr.cell? ⟨w.heap.size + 1, 0, none⟩ = some (.int .i64 a) := by have := HBX.out; simp [World.cell?, this]
      have p1 : wr.cell? ⟨w.heap.size + 1, 1, none⟩ = some (.slice Ar T.nodes.length cr) := by have := HBX.out; simp [World.cell?, this]
      subst hA
      clear hcell hx htk hrb hT hR hwid hwid1 hrm
      go_wp2
      refine wp_region_G [5, 10] [(0, fun w' => w'.cell? ⟨w.heap.size + 1, 0, none⟩ = some (.int .i64 a) ∧ w'.cell? ⟨w.heap.size + 1, 1, none⟩ = some (.slice Ar T.nodes.length cr)), (4, fun w' => w'.cell? ⟨bb, o + k * 5, none⟩ = some (.int .i64 op) ∧ w'.cell? ⟨bb, o + k * 5 + 1, none⟩ = some (.int .i64 v) ∧ w'.cell? ⟨bb, o + k * 5 + 2, none⟩ = some (.int .i64 x) ∧ w'.cell? ⟨bb, o + k * 5 + 3, none⟩ = some (.int .i64 y) ∧ w'.cell? ⟨bb, o + k * 5 + 4, none⟩ = some (.int .i64 z))] (by kernel_rfl) ?_
      refine wpG_take (i := 0) (v := ?_) rfl (by kernel_rfl) rfl (by kernel_rfl) (by kernel_rfl) (fun _ _ _ h => h) (by rfl) ?_ (by simp [asksOf]; exact ⟨p0, p1⟩) ?_
      rotate_left
      · intro w hw; simp [asksOf] at hw; obtain ⟨hw0, hw1⟩ := hw; go_simp; rfl
      simp only [Act.put, List.getElem_toArray, List.getElem_cons_zero, List.getElem_cons_succ, List.setIfInBounds_toArray, List.set_cons_zero, List.set_cons_succ]
      refine wpG_take (i := 1) (v := ?_) rfl (by kernel_rfl) rfl (by kernel_rfl) (by kernel_rfl) (fun _ _ _ h => h) (by rfl) ?_ (asks_none rfl _) ?_
      rotate_left
      · intro w _; go_simp; rfl
      simp only [Act.put, List.getElem_toArray, List.getElem_cons_zero, List.getElem_cons_succ, List.setIfInBounds_toArray, List.set_cons_zero, List.set_cons_succ]
      refine wpG_take (i := 2) (v := ?_) rfl (by kernel_rfl) rfl (by kernel_rfl) (by kernel_rfl) (fun _ _ _ h => h) (by rfl) ?_ (asks_none rfl _) ?_
      rotate_left
      · intro w _; go_simp; rfl
      simp only [Act.put, List.getElem_toArray, List.getElem_cons_zero, List.getElem_cons_succ, List.setIfInBounds_toArray, List.set_cons_zero, List.set_cons_succ]
      refine wpG_take (i := 3) (v := ?_) rfl (by kernel_rfl) rfl (by kernel_rfl) (by kernel_rfl) (fun _ _ _ h => h) (by rfl) ?_ (asks_none rfl _) ?_
      rotate_left
      · intro w _; go_simp; rfl
      simp only [Act.put, List.getElem_toArray, List.getElem_cons_zero, List.getElem_cons_succ, List.setIfInBounds_toArray, List.set_cons_zero, List.set_cons_succ]
      refine wpG_take (i := 4) (v := ?_) rfl (by kernel_rfl) rfl (by kernel_rfl) (by kernel_rfl) (fun _ _ _ h => h) (by rfl) ?_ (by simp [asksOf]; exact ⟨n0, n1, n2, n3, n4⟩) ?_
      rotate_left
      · intro w hw; simp [asksOf] at hw; obtain ⟨hw0, hw1, hw2, hw3, hw4⟩ := hw; go_simp; rfl
      simp only [Act.put, List.getElem_toArray, List.getElem_cons_zero, List.getElem_cons_succ, List.setIfInBounds_toArray, List.set_cons_zero, List.set_cons_succ]
      refine wpG_loud (i := 5) rfl rfl rfl (by kernel_rfl) (fun K hK => ?_)
      go_simp
      refine (HRM.out _ (SLR.out.drewN 1)).mono ?_
      rintro e w5 ⟨A5, c5, rfl, hs5, hn5, hb5⟩
      rw [HW1.out]
      have hb5 : Below wr.heap.size wr w5 := (below_drewN (Below.refl wr.heap.size wr) 1).trans hb5
      have hbx5 := (hb5.block _ (lt_of_some HBX.out)).trans HBX.out
      have hby5 := (hb5.block _ (lt_of_some HBY.out)).trans HBY.out
      have q0 : w5.cell? ⟨w.heap.size + 1, 0, none⟩ = some (.int .i64 a) := by simp [World.cell?, hbx5]
      have q1 : w5.cell? ⟨w.heap.size + 1, 1, none⟩ = some (.slice Ar T.nodes.length cr) := by simp [World.cell?, hbx5]
      have qf : ∀ o, w5.frozen? ⟨w.heap.size + 1, o, none⟩ = false := by simp [World.frozen?, hbx5]
      have HS5 := Lib.hid hs5
      have HN5 := Lib.hid hn5
      have HB5 := Lib.hid hb5
      have HBX5 := Lib.hid hbx5
      have HBY5 := Lib.hid hby5
      clear hs5 hn5 hb5 hbx5 hby5 p0 p1 n0 n1 n2 n3 n4
      refine hK _ _ ?_ ?_
      · intro q hq hwt; simp only [List.mem_cons, List.not_mem_nil, or_false] at hq; rcases hq with rfl | rfl
        · exact Bool.noConfusion (hwt.symm.trans (show _ = true from by kernel_rfl))
        · exact Bool.noConfusion (hwt.symm.trans (show _ = true from by kernel_rfl))
      clear hK K
      try simp only [Act.put, List.getElem_toArray, List.getElem_cons_zero, List.getElem_cons_succ, List.setIfInBounds_toArray, List.set_cons_zero, List.set_cons_succ]
      refine wpG_take (i := 6) (v := ?_) rfl (by kernel_rfl) rfl (by kernel_rfl) (by kernel_rfl) (fun _ _ _ h => h) (by rfl) ?_ (asks_none rfl _) ?_
      rotate_left
      · intro w _; go_simp; rfl
      simp only [Act.put, List.getElem_toArray, List.getElem_cons_zero, List.getElem_cons_succ, List.setIfInBounds_toArray, List.set_cons_zero, List.set_cons_succ]
      refine wpG_take (i := 7) (v := ?_) rfl (by kernel_rfl) rfl (by kernel_rfl) (by kernel_rfl) (fun _ _ _ h => h) (by rfl) ?_ (asks_none rfl _) ?_
      rotate_left
      · intro w _; go_simp; rfl
      simp only [Act.put, List.getElem_toArray, List.getElem_cons_zero, List.getElem_cons_succ, List.setIfInBounds_toArray, List.set_cons_zero, List.set_cons_succ]
      refine wpG_take (i := 8) (v := ?_) rfl (by kernel_rfl) rfl (by kernel_rfl) (by kernel_rfl) (fun _ _ _ h => h) (by rfl) ?_ (asks_none rfl _) ?_
      rotate_left
      · intro w _; go_simp; rfl
      simp only [Act.put, List.getElem_toArray, List.getElem_cons_zero, List.getElem_cons_succ, List.setIfInBounds_toArray, List.set_cons_zero, List.set_cons_succ]
      refine wpG_take (i := 9) (v := ?_) rfl (by kernel_rfl) rfl (by kernel_rfl) (by kernel_rfl) (fun _ _ _ h => h) (by rfl) ?_ (asks_none rfl _) ?_
      rotate_left
      · intro w _; go_simp; rfl
      simp only [Act.put, List.getElem_toArray, List.getElem_cons_zero, List.getElem_cons_succ, List.setIfInBounds_toArray, List.set_cons_zero, List.set_cons_succ]
      refine wpG_loud (i := 10) rfl rfl rfl (by kernel_rfl) (fun K hK => ?_)
      go_simp
      refine hK _ _ ?_ ?_
      · intro q hq hwt; simp only [List.mem_cons, List.not_mem_nil, or_false] at hq; rcases hq with rfl | rfl
        · exact Bool.noConfusion (hwt.symm.trans (show _ = true from by kernel_rfl))
        · exact Bool.noConfusion (hwt.symm.trans (show _ = true from by kernel_rfl))
      clear hK K
      try simp only [Act.put, List.getElem_toArray, List.getElem_cons_zero, List.getElem_cons_succ, List.setIfInBounds_toArray, List.set_cons_zero, List.set_cons_succ]
      refine wpG_done (by kernel_rfl) ?_
      have hrb6 := HRB.out.set HB5.out HS5.out HN5.out
      have HRB6 := Lib.hid hrb6
      clear hrb6 q0 q1 qf
      go_wp2
      go_roundw
      case rel => exact ⟨_, k + 1, rfl, by omega, by go_num, A5, c5, by rw [HN.out]; exact HRB6.out⟩
      case measure => simp [intOf]; omega
    · obtain rfl : k = l.length := by omega
      have HE : Hid (buildK a l l.length = buildF a l) := by show _ = _; unfold buildK; rw [List.take_length]; rfl
      rw [HE.out] at hrb
      obtain ⟨T, hT⟩ : ∃ T, buildF a l = T := ⟨_, rfl⟩
      rw [hT] at hrb
      have HT := Lib.hid hT
      have HRB := Lib.hid hrb
      have p0 : wr.cell? ⟨w.heap.size + 1, 0, none⟩ = some (.int .i64 a) := by have := hrb.box; simp [World.cell?, this]
      have p1 : wr.cell? ⟨w.heap.size + 1, 1, none⟩ = some (.slice Ar T.nodes.length cr) := by have := hrb.box; simp [World.cell?, this]
      have r0 : wr.cell? ⟨w.heap.size, 0, none⟩ = some (.int .i64 0) := by have := hrb.res; simp [World.cell?, this]
      have r1 : wr.cell? ⟨w.heap.size, 1, none⟩ = some (.slice none 0 0) := by have := hrb.res; simp [World.cell?, this]
      have rf : ∀ o, wr.frozen? ⟨w.heap.size, o, none⟩ = false := by have := hrb.res; simp [World.frozen?, this]
      clear hrb hT hwid
      go_wp2
      refine bodyPost_ret (results_cell1 rfl rfl (loadVar66 (two_set _ _ HRB.out.res).1 (two_set _ _ HRB.out.res).2)) rfl ?_
      rw [HT.out]
      refine ⟨Ar, cr, rfl, HRB.out.sl.keepr (fun b e => ?_) HRB.out.ra, HRB.out.ra, (HRB.out.bel.setCell (p := ⟨w.heap.size, 0, none⟩) (Nat.le_refl _) _).setCell (p := ⟨w.heap.size, 1, none⟩) (Nat.le_refl _) _⟩
      have h := (HRB.out.sep b e).1
      rw [Below.heap_setCell _ _ _ _ (by show _ ≠ w.heap.size; exact h), Below.heap_setCell _ _ _ _ (by show _ ≠ w.heap.size; exact h)]
def natsL (n : Nat) : List Int := (List.range n).map fun (k : Nat) => (k : Int)
theorem natsL_succ (n : Nat) : natsL (n + 1) = natsL n ++ [(n : Int)] := by unfold natsL; rw [List.range_succ, List.map_append]; rfl
theorem natsL_length (n : Nat) : (natsL n).length = n := by simp [natsL]
set_option maxRecDepth 100000 in
theorem counting_any (n : Nat) (hn : n ≤ 1000000) (w : World) : Calls Try.prog 78 #[.int .i64 (n : Int)] w (InpRet w (natsL n)) := by
  go_enter Try.func78, Try.ntmps78
  go_wp2
  go_loopw [3, 4, 6] (fun u3 _ u6 wr => ∃ (W : World) (k : Nat) (vo : Value), W = wr ∧ vo = u3 ∧ k ≤ n ∧ u6 = .int .i64 k ∧ OwnI W w.heap.size vo (natsL k) ∧ Below w.heap.size w W) (fun _ _ u6 _ => n - (intOf u6).toNat)
  case atStart => exact ⟨_, 0, _, rfl, rfl, Nat.zero_le _, rfl, OwnOf.nil _ _, Below.refl _ _⟩
  case round =>
    obtain ⟨wr, k, vo, rfl, rfl, hk, rfl, hout, hbw⟩ := hrel
    by_cases hlt : k < n
    · have hltI : (k : Int) < (n : Int) := by omega
      have HI : Hid (natsL (k + 1) = natsL k ++ [(k : Int)]) := natsL_succ k
      have hil := natsL_length k
      have HBW := Lib.hid hbw
      have HOUT := Lib.hid hout
      obtain ⟨L, hL⟩ : ∃ L, natsL k = L := ⟨_, rfl⟩
      rw [hL] at hil hout HI
      have hil' : L.length ≤ 1000000 := by omega
      clear hbw hL hil
      go_wp2_with (at_builtin; go_must (refine app1 (Value.int .i64) oneInt 24 3 8 Try.underlying24 Try.info3 rfl rfl _ _ rfl _ _ _ _ hout rfl rfl ?_ ?_ ?_ ?_))
      · omega
      · omega
      · exact HBW.out.size
      intro v' w3 ho3 hg3
      rw [← HI.out] at ho3
      have HB3 := Lib.hid (HBW.out.grown hg3 HBW.out.size (fun q hq => (hout.lt q hq).1))
      have HO3 := Lib.hid ho3
      clear hout ho3 hg3
      go_wp2
      go_roundw
      case rel => exact ⟨_, k + 1, _, rfl, rfl, by omega, by go_num, HO3.out, HB3.out⟩
      case measure => simp [intOf]; omega
    · obtain rfl : k = n := by omega
      have HBW := Lib.hid hbw
      have HOUT := Lib.hid hout
      clear hbw hout
      go_wp2
      go_ret
      exact ⟨_, rfl, HOUT.out, HBW.out⟩
section
variable {B0 p m : Nat} {A A2 : Option Addr} {c' c c2 : Nat} {T : TS} {w : World} {inp : List Int}
theorem inputs_all (hb : Tb B0 w p m A c' T) (hw : TWf T) (i : Int) : Calls Try.prog 61 #[.pointer (some ⟨p, 0, none⟩), .int .i64 i] w (InpRet w (inputsF T (partsF T i))) := by
  unfold partsF
  rcases hn : nodeAt T i with _ | t
  · have e : inputsF T [] = [] := by simp [inputsF, inpsL, sortL, Lib.compact, Lib.compactUpTo]
    dsimp only
    rw [e]; exact inputs_no hb (nodeAt_none.1 hn)
  · obtain ⟨k, rfl, hk⟩ := nodeAt_some hn
    exact inputs_yes hb hw hk
theorem size_all (hb : Tb B0 w p m A c' T) (hw : TWf T) (i : Int) :
    Calls Try.prog 59 #[.pointer (some ⟨p, 0, none⟩), .int .i64 i] w fun e w' => e = .returned (.int .i64 ((partsF T i).length : Int)) ∧ Below w.heap.size w w' := by
  unfold partsF
  rcases hn : nodeAt T i with _ | t
  · exact (size_no hb (nodeAt_none.1 hn)).mono fun e w' ⟨he, hw'⟩ => ⟨he, by rw [← hw']; exact Below.refl _ _⟩
  · obtain ⟨k, rfl, hk⟩ := nodeAt_some hn
    exact size_yes hb hw hk
end
end Go.Proofs.Ytgmcajojigedaaa
