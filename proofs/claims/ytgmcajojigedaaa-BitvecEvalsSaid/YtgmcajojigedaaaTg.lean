/- The walk of the table's fits: operators with arguments; and all together. -/
import Derived.Test.YtgmcajojigedaaaTf
set_option linter.unusedSimpArgs false
set_option linter.unusedVariables false
namespace Go.Proofs.Ytgmcajojigedaaa
open Go.RowKit Go.Maps

def sAt (s0 s1 s2 : Int) : Nat → Int
  | 0 => s0
  | 1 => s1
  | _ => s2
theorem three_cases {k : Nat} (h : k < 3) : k = 0 ∨ k = 1 ∨ k = 2 := by omega
section
variable {B0 p m : Nat} {A : Option Addr} {c' : Nat} {T : TS} {w : World}
theorem exists_v (hb : Tb B0 w p m A c' T) {i : Int} {r : Bool} (h : hasB T i = r) : Calls Try.prog 117 #[.pointer (some ⟨p, 0, none⟩), .int .i64 i] w fun e w' => e = .returned (.bool r) ∧ w = w' := by
  subst h; exact exists_any hb i
set_option maxRecDepth 100000 in
set_option maxHeartbeats 4000000 in
theorem fits_some (hb : Tb B0 w p m A c' T) (op v a b c s0 s1 s2 s : Int) (hf : formF op = some ((s0, s1, s2), s)) :
    Calls Try.prog 135 #[.pointer (some ⟨p, 0, none⟩), tagg ⟨op, v, a, b, c⟩] w (FitRet w (fitsT T ⟨op, v, a, b, c⟩)) := by
  have hres : fitsT T ⟨op, v, a, b, c⟩ = (argOk T (sAt s0 s1 s2 0) (sAt a b c 0) && argOk T (sAt s0 s1 s2 1) (sAt a b c 1) && argOk T (sAt s0 s1 s2 2) (sAt a b c 2) && decide (v = 0)) := by
    unfold fitsT; dsimp only; rw [hf]; rfl
  rw [hres]
  have HF := Lib.hid hf
  have HB := Lib.hid hb
  have hix : ∀ k : Nat, k < 3 → ∀ w, (Instr.index 82 (.agg #[.int .i64 s0, .int .i64 s1, .int .i64 s2]) (.int .i64 (k : Int))).run Try.prog w = .ok (.int .i64 (sAt s0 s1 s2 k)) w := fun k hk => by
    rcases three_cases hk with rfl | rfl | rfl <;> exact fun w => by kernel_rfl
  have HIX := Lib.hid hix
  have hno : ∀ k : Nat, k < 3 → argOk T (sAt s0 s1 s2 k) (sAt a b c k) = false → (argOk T (sAt s0 s1 s2 0) (sAt a b c 0) && argOk T (sAt s0 s1 s2 1) (sAt a b c 1) && argOk T (sAt s0 s1 s2 2) (sAt a b c 2) && decide (v = 0)) = false := fun k hk h => by
    rcases three_cases hk with rfl | rfl | rfl <;> rw [h] <;> simp
  have HNO := Lib.hid hno
  clear hb hres hf hix hno
  unfold tagg FitRet
  go_enter Try.func135, Try.ntmps135
  go_wp2_with (go_at_call 160; go_must (refine (forms_any op _).mono ?_; rintro e w1 ⟨rfl, hb⟩; rw [HF.out]; dsimp only [formV]; obtain ⟨hb1, hz1, q0, q1, q2, q3, q4⟩ := box84 (t := ⟨op, v, a, b, c⟩) hb; clear hb))
  have hc2 : ∀ k : Nat, k < 3 → (w1.alloc (.cells #[.int .i64 s0, .int .i64 s1, .int .i64 s2, .int .i64 s] 162)).cell? ⟨w.heap.size, 2 + k, none⟩ = some (.int .i64 (sAt a b c k)) := fun k hk => by
    have al : ∀ (q : Addr) (u : Value), w1.cell? q = some u → (w1.alloc (.cells #[.int .i64 s0, .int .i64 s1, .int .i64 s2, .int .i64 s] 162)).cell? q = some u := fun q u h => (World.cell?_alloc_lt w1 _ q (cell_lt h)).trans h
    rcases three_cases hk with rfl | rfl | rfl
    · exact al _ _ q2
    · exact al _ _ q3
    · exact al _ _ q4
  have hq1 : (w1.alloc (.cells #[.int .i64 s0, .int .i64 s1, .int .i64 s2, .int .i64 s] 162)).cell? ⟨w.heap.size, 1, none⟩ = some (.int .i64 v) := (World.cell?_alloc_lt w1 _ _ (cell_lt q1)).trans q1
  have hbw : Below w.heap.size w (w1.alloc (.cells #[.int .i64 s0, .int .i64 s1, .int .i64 s2, .int .i64 s] 162)) := hb1.trans ((below_alloc _ _).mono hb1.size)
  obtain ⟨w2, hw2⟩ : ∃ w2 : World, w1.alloc (.cells #[.int .i64 s0, .int .i64 s1, .int .i64 s2, .int .i64 s] 162) = w2 := ⟨_, rfl⟩
  rw [hw2] at hc2 hq1 hbw ⊢
  have HC2 := Lib.hid hc2
  have HQ1 := Lib.hid hq1
  have HBW2 := Lib.hid hbw
  clear hc2 hq1 hbw hw2 q0 q1 q2 q3 q4 hb1 hz1
  go_loopw [7, 8, 58] (fun _ _ i wr => ∃ k : Nat, k ≤ 3 ∧ i = .int .i64 k ∧ (∀ j, j < k → argOk T (sAt s0 s1 s2 j) (sAt a b c j) = true) ∧ Below w2.heap.size w2 wr) (fun _ _ i _ => 3 - (intOf i).toNat)
  case atStart => exact ⟨0, by omega, rfl, fun j hj => by omega, Below.refl _ _⟩
  case round =>
    obtain ⟨k, hk, rfl, hall, hbr⟩ := hrel
    rename_i wr
    have HALL := Lib.hid hall
    have HBW : Hid (Below w.heap.size w wr) := HBW2.out.trans (hbr.mono HBW2.out.size)
    have HBR := Lib.hid hbr
    have HBr := Lib.hid (HB.out.below HBW.out)
    by_cases hlt : k < 3
    · have f7 := (hbr.cell (cell_lt (HC2.out k hlt))).trans (HC2.out k hlt)
      have hix := HIX.out k hlt
      have hno := HNO.out k hlt
      have hstep : argOk T (sAt s0 s1 s2 k) (sAt a b c k) = true → ∀ j, j < k + 1 → argOk T (sAt s0 s1 s2 j) (sAt a b c j) = true := fun h j hj => by
        rcases Nat.lt_succ_iff_lt_or_eq.1 hj with h1 | rfl
        · exact HALL.out j h1
        · exact h
      clear hall hbr
      generalize hs : sAt s0 s1 s2 k = so at f7 hix hno hstep
      generalize hx : sAt a b c k = x at f7 hix hno hstep
      have HNO2 := Lib.hid hno
      have HST := Lib.hid hstep
      clear hno hstep hs hx
      have hk3 : (k : Int) < 3 := by omega
      by_cases h1 : so = -1
      · subst h1
        by_cases h0 : x = 0
        · have e0 : (x != 0) = false := by rw [h0]; rfl
          have HOK : Hid (argOk T (-1) x = true) := by show _ = _; unfold argOk; rw [if_pos rfl, h0]; rfl
          clear h0
          go_wp2
          go_quiet (fail)
          go_wp2
          go_roundw
          case rel => exact ⟨k + 1, by omega, by go_num, HST.out HOK.out, below_drewN HBR.out _⟩
          case measure => simp [intOf]; omega
        · have e0 : (x != 0) = true := by rw [bne_iff_ne]; exact h0
          have HOK : Hid (argOk T (-1) x = false) := by show _ = _; unfold argOk; rw [if_pos rfl, decide_eq_false h0]
          clear h0
          go_wp2
          go_ret
          exact ⟨by rw [HNO2.out HOK.out]; rfl, HBW.out⟩
      · have e1 : (so == -1) = false := beq_eq_false_iff_ne.2 h1
        have e2 : (so != -1) = true := by rw [bne_iff_ne]; exact h1
        rcases hn : nodeAt T x with _ | t
        · have HAS : Hid (hasB T x = false) := nodeAt_none.1 hn
          have HOK : Hid (argOk T so x = false) := by show _ = _; unfold argOk; rw [if_neg h1, hn]
          clear h1 hn
          go_wp2
          go_quiet ((go_at_call 117; exact quiet_left (exists_v (HBr.out.drewN _) HAS.out)))
          go_wp2
          go_ret
          exact ⟨by rw [HNO2.out HOK.out]; rfl, below_drewN HBW.out _⟩
        · obtain ⟨j, rfl, hj⟩ := nodeAt_some hn
          have hjl := (List.getElem?_eq_some_iff.1 hj).1
          have HAS : Hid (hasB T (j : Int) = true) := decide_eq_true (by omega)
          have HOK : Hid (argOk T so (j : Int) = decide (sortF t.op = so)) := by show _ = _; unfold argOk; rw [if_neg h1, hn]
          obtain ⟨bn, t', hA, ht', hcell⟩ := HBr.out.nodes.at_ hjl
          rw [hj] at ht'
          cases ht'
          subst hA
          have f14 := HBr.out.cell1
          have f21 := hcell.1
          have hjI : (j : Int) < (T.nodes.length : Int) := by omega
          obtain ⟨so2, hso⟩ : ∃ so2, sortF t.op = so2 := ⟨_, rfl⟩
          rw [hso] at HOK
          have HSO := Lib.hid hso
          clear hn hj hcell h1 hso
          by_cases hq : so2 = so
          · have e3 : (so2 != so) = false := by rw [hq]; exact bne_self_eq_false _
            have HOK2 : Hid (argOk T so (j : Int) = true) := by show _ = _; rw [HOK.out, decide_eq_true hq]
            clear hq HOK
            go_wp2
            refine wp_region_G [8, 22] [(7, fun w' => w'.cell? ⟨w.heap.size, 2 + k, none⟩ = some (.int .i64 (j : Int))), (14, fun w' => w'.cell? ⟨p, 1, none⟩ = some (.slice (some ⟨bn, 0, none⟩) T.nodes.length c')), (18, fun w' => w'.cell? ⟨w.heap.size, 2 + k, none⟩ = some (.int .i64 (j : Int))), (21, fun w' => w'.cell? ⟨bn, j * 5, none⟩ = some (.int .i64 t.op))] (by kernel_rfl) ?_
            refine wpG_take (i := 0) (v := ?_) rfl (by kernel_rfl) rfl (by kernel_rfl) (by kernel_rfl) (fun _ _ _ h => h) (by rfl) ?_ (asks_none rfl _) ?_
            rotate_left
            · intro w _; go_simp; rfl
            simp only [Act.put, List.getElem_toArray, List.getElem_cons_zero, List.getElem_cons_succ, List.setIfInBounds_toArray, List.set_cons_zero, List.set_cons_succ]
            refine wpG_take (i := 1) (v := ?_) rfl (by kernel_rfl) rfl (by kernel_rfl) (by kernel_rfl) (fun _ _ _ h => h) (by rfl) ?_ (asks_none rfl _) ?_
            rotate_left
            · intro w _; go_simp; rfl
            simp only [Act.put, List.getElem_toArray, List.getElem_cons_zero, List.getElem_cons_succ, List.setIfInBounds_toArray, List.set_cons_zero, List.set_cons_succ]
            refine wpG_take (i := 2) (v := ?_) rfl (by kernel_rfl) rfl (by kernel_rfl) (by kernel_rfl) (fun _ _ _ h => h) (by rfl) ?_ (asks_none rfl _) ?_
            rotate_left
            · intro w _; go_simp; rfl
            simp only [Act.put, List.getElem_toArray, List.getElem_cons_zero, List.getElem_cons_succ, List.setIfInBounds_toArray, List.set_cons_zero, List.set_cons_succ]
            refine wpG_take (i := 3) (v := ?_) rfl (by kernel_rfl) rfl (by kernel_rfl) (by kernel_rfl) (fun _ _ _ h => h) (by rfl) ?_ (asks_none rfl _) ?_
            rotate_left
            · intro w _; go_simp; rfl
            simp only [Act.put, List.getElem_toArray, List.getElem_cons_zero, List.getElem_cons_succ, List.setIfInBounds_toArray, List.set_cons_zero, List.set_cons_succ]
            refine wpG_take (i := 4) (v := ?_) rfl (by kernel_rfl) rfl (by kernel_rfl) (by kernel_rfl) (fun _ _ _ h => h) (by rfl) ?_ (asks_none rfl _) ?_
            rotate_left
            · intro w _; go_simp; rfl
            simp only [Act.put, List.getElem_toArray, List.getElem_cons_zero, List.getElem_cons_succ, List.setIfInBounds_toArray, List.set_cons_zero, List.set_cons_succ]
            refine wpG_take (i := 5) (v := ?_) rfl (by kernel_rfl) rfl (by kernel_rfl) (by kernel_rfl) (fun _ _ _ h => h) (by rfl) ?_ (asks_none rfl _) ?_
            rotate_left
            · intro w _; go_simp; rfl
            simp only [Act.put, List.getElem_toArray, List.getElem_cons_zero, List.getElem_cons_succ, List.setIfInBounds_toArray, List.set_cons_zero, List.set_cons_succ]
            refine wpG_take (i := 6) (v := ?_) rfl (by kernel_rfl) rfl (by kernel_rfl) (by kernel_rfl) (fun _ _ _ h => h) (by rfl) ?_ (asks_none rfl _) ?_
            rotate_left
            · intro w _; go_simp; rfl
            simp only [Act.put, List.getElem_toArray, List.getElem_cons_zero, List.getElem_cons_succ, List.setIfInBounds_toArray, List.set_cons_zero, List.set_cons_succ]
            refine wpG_take (i := 7) (v := ?_) rfl (by kernel_rfl) rfl (by kernel_rfl) (by kernel_rfl) (fun _ _ _ h => h) (by rfl) ?_ (by simp [asksOf]; exact f7) ?_
            rotate_left
            · intro w hw; simp [asksOf] at hw; go_simp; rfl
            simp only [Act.put, List.getElem_toArray, List.getElem_cons_zero, List.getElem_cons_succ, List.setIfInBounds_toArray, List.set_cons_zero, List.set_cons_succ]
            refine wpG_loud (i := 8) rfl rfl rfl (by kernel_rfl) (fun K hK => ?_)
            go_simp
            refine (exists_any (HBr.out.drewN 1) (j : Int)).mono ?_
            rw [HAS.out]
            rintro e we ⟨rfl, rfl⟩
            refine hK _ _ ?_ ?_
            · intro q hq hwt; simp only [List.mem_cons, List.not_mem_nil, or_false] at hq; rcases hq with rfl | rfl | rfl | rfl
              · exact f7
              · exact f14
              · exact f7
              · exact f21
            clear hK K
            try simp only [Act.put, List.getElem_toArray, List.getElem_cons_zero, List.getElem_cons_succ, List.setIfInBounds_toArray, List.set_cons_zero, List.set_cons_succ]
            refine wpG_take (i := 9) (v := ?_) rfl (by kernel_rfl) rfl (by kernel_rfl) (by kernel_rfl) (fun _ _ _ h => h) (by rfl) ?_ (asks_none rfl _) ?_
            rotate_left
            · intro w _; go_simp; rfl
            simp only [Act.put, List.getElem_toArray, List.getElem_cons_zero, List.getElem_cons_succ, List.setIfInBounds_toArray, List.set_cons_zero, List.set_cons_succ]
            refine wpG_take (i := 10) (v := ?_) rfl (by kernel_rfl) rfl (by kernel_rfl) (by kernel_rfl) (fun _ _ _ h => h) (by rfl) ?_ (asks_none rfl _) ?_
            rotate_left
            · intro w _; go_simp; rfl
            simp only [Act.put, List.getElem_toArray, List.getElem_cons_zero, List.getElem_cons_succ, List.setIfInBounds_toArray, List.set_cons_zero, List.set_cons_succ]
            refine wpG_take (i := 11) (v := ?_) rfl (by kernel_rfl) rfl (by kernel_rfl) (by kernel_rfl) (fun _ _ _ h => h) (by rfl) ?_ (asks_none rfl _) ?_
            rotate_left
            · intro w _; go_simp; rfl
            simp only [Act.put, List.getElem_toArray, List.getElem_cons_zero, List.getElem_cons_succ, List.setIfInBounds_toArray, List.set_cons_zero, List.set_cons_succ]
            refine wpG_take (i := 12) (v := ?_) rfl (by kernel_rfl) rfl (by kernel_rfl) (by kernel_rfl) (fun _ _ _ h => h) (by rfl) ?_ (asks_none rfl _) ?_
            rotate_left
            · intro w _; go_simp; rfl
            simp only [Act.put, List.getElem_toArray, List.getElem_cons_zero, List.getElem_cons_succ, List.setIfInBounds_toArray, List.set_cons_zero, List.set_cons_succ]
            refine wpG_take (i := 13) (v := ?_) rfl (by kernel_rfl) rfl (by kernel_rfl) (by kernel_rfl) (fun _ _ _ h => h) (by rfl) ?_ (asks_none rfl _) ?_
            rotate_left
            · intro w _; go_simp; rfl
            simp only [Act.put, List.getElem_toArray, List.getElem_cons_zero, List.getElem_cons_succ, List.setIfInBounds_toArray, List.set_cons_zero, List.set_cons_succ]
            refine wpG_take (i := 14) (v := ?_) rfl (by kernel_rfl) rfl (by kernel_rfl) (by kernel_rfl) (fun _ _ _ h => h) (by rfl) ?_ (by simp [asksOf]; exact f14) ?_
            rotate_left
            · intro w hw; simp [asksOf] at hw; go_simp; rfl
            simp only [Act.put, List.getElem_toArray, List.getElem_cons_zero, List.getElem_cons_succ, List.setIfInBounds_toArray, List.set_cons_zero, List.set_cons_succ]
            refine wpG_take (i := 15) (v := ?_) rfl (by kernel_rfl) rfl (by kernel_rfl) (by kernel_rfl) (fun _ _ _ h => h) (by rfl) ?_ (asks_none rfl _) ?_
            rotate_left
            · intro w _; go_simp; rfl
            simp only [Act.put, List.getElem_toArray, List.getElem_cons_zero, List.getElem_cons_succ, List.setIfInBounds_toArray, List.set_cons_zero, List.set_cons_succ]
            refine wpG_take (i := 16) (v := ?_) rfl (by kernel_rfl) rfl (by kernel_rfl) (by kernel_rfl) (fun _ _ _ h => h) (by rfl) ?_ (asks_none rfl _) ?_
            rotate_left
            · intro w _; go_simp; rfl
            simp only [Act.put, List.getElem_toArray, List.getElem_cons_zero, List.getElem_cons_succ, List.setIfInBounds_toArray, List.set_cons_zero, List.set_cons_succ]
            refine wpG_take (i := 17) (v := ?_) rfl (by kernel_rfl) rfl (by kernel_rfl) (by kernel_rfl) (fun _ _ _ h => h) (by rfl) ?_ (asks_none rfl _) ?_
            rotate_left
            · intro w _; go_simp; rfl
            simp only [Act.put, List.getElem_toArray, List.getElem_cons_zero, List.getElem_cons_succ, List.setIfInBounds_toArray, List.set_cons_zero, List.set_cons_succ]
            refine wpG_take (i := 18) (v := ?_) rfl (by kernel_rfl) rfl (by kernel_rfl) (by kernel_rfl) (fun _ _ _ h => h) (by rfl) ?_ (by simp [asksOf]; exact f7) ?_
            rotate_left
            · intro w hw; simp [asksOf] at hw; go_simp; rfl
            simp only [Act.put, List.getElem_toArray, List.getElem_cons_zero, List.getElem_cons_succ, List.setIfInBounds_toArray, List.set_cons_zero, List.set_cons_succ]
            refine wpG_take (i := 19) (v := ?_) rfl (by kernel_rfl) rfl (by kernel_rfl) (by kernel_rfl) (fun _ _ _ h => h) (by rfl) ?_ (asks_none rfl _) ?_
            rotate_left
            · intro w _; go_simp; rfl
            simp only [Act.put, List.getElem_toArray, List.getElem_cons_zero, List.getElem_cons_succ, List.setIfInBounds_toArray, List.set_cons_zero, List.set_cons_succ]
            refine wpG_take (i := 20) (v := ?_) rfl (by kernel_rfl) rfl (by kernel_rfl) (by kernel_rfl) (fun _ _ _ h => h) (by rfl) ?_ (asks_none rfl _) ?_
            rotate_left
            · intro w _; go_simp; rfl
            simp only [Act.put, List.getElem_toArray, List.getElem_cons_zero, List.getElem_cons_succ, List.setIfInBounds_toArray, List.set_cons_zero, List.set_cons_succ]
            refine wpG_take (i := 21) (v := ?_) rfl (by kernel_rfl) rfl (by kernel_rfl) (by kernel_rfl) (fun _ _ _ h => h) (by rfl) ?_ (by simp [asksOf]; exact f21) ?_
            rotate_left
            · intro w hw; simp [asksOf] at hw; go_simp; rfl
            simp only [Act.put, List.getElem_toArray, List.getElem_cons_zero, List.getElem_cons_succ, List.setIfInBounds_toArray, List.set_cons_zero, List.set_cons_succ]
            refine wpG_take (i := 23) (v := ?_) rfl (by kernel_rfl) rfl (by kernel_rfl) (by kernel_rfl) (fun _ _ _ h => h) (by rfl) ?_ (asks_none rfl _) ?_
            rotate_left
            · intro w _; go_simp; rfl
            simp only [Act.put, List.getElem_toArray, List.getElem_cons_zero, List.getElem_cons_succ, List.setIfInBounds_toArray, List.set_cons_zero, List.set_cons_succ]
            refine wpG_loud (i := 22) rfl rfl rfl (by kernel_rfl) (fun K hK => ?_)
            go_simp
            refine (sort_any t.op _).mono ?_
            rw [HSO.out]
            rintro e w9 ⟨rfl, hb9⟩
            have hb9' : Below wr.heap.size wr w9 := (below_drewN (Below.refl _ _) 1).trans hb9
            have HB9 : Hid (Below w.heap.size w w9) := HBW.out.trans (hb9'.mono HBW.out.size)
            have HB9x := Lib.hid hb9'
            refine hK _ _ ?_ ?_
            · intro q hq hwt; simp only [List.mem_cons, List.not_mem_nil, or_false] at hq; rcases hq with rfl | rfl | rfl | rfl
              · exact (hb9'.cell (cell_lt f7)).trans f7
              · exact (hb9'.cell (cell_lt f14)).trans f14
              · exact (hb9'.cell (cell_lt f7)).trans f7
              · exact (hb9'.cell (cell_lt f21)).trans f21
            clear hK K hb9 hb9'
            try simp only [Act.put, List.getElem_toArray, List.getElem_cons_zero, List.getElem_cons_succ, List.setIfInBounds_toArray, List.set_cons_zero, List.set_cons_succ]
            refine wpG_take (i := 24) (v := ?_) rfl (by kernel_rfl) rfl (by kernel_rfl) (by kernel_rfl) (fun _ _ _ h => h) (by rfl) ?_ (asks_none rfl _) ?_
            rotate_left
            · intro w _; go_simp; rfl
            simp only [Act.put, List.getElem_toArray, List.getElem_cons_zero, List.getElem_cons_succ, List.setIfInBounds_toArray, List.set_cons_zero, List.set_cons_succ]
            refine wpG_take (i := 25) (v := ?_) rfl (by kernel_rfl) rfl (by kernel_rfl) (by kernel_rfl) (fun _ _ _ h => h) (by rfl) ?_ (asks_none rfl _) ?_
            rotate_left
            · intro w _; go_simp; rfl
            simp only [Act.put, List.getElem_toArray, List.getElem_cons_zero, List.getElem_cons_succ, List.setIfInBounds_toArray, List.set_cons_zero, List.set_cons_succ]
            refine wpG_take (i := 26) (v := ?_) rfl (by kernel_rfl) rfl (by kernel_rfl) (by kernel_rfl) (fun _ _ _ h => h) (by rfl) ?_ (asks_none rfl _) ?_
            rotate_left
            · intro w _; go_simp; rfl
            simp only [Act.put, List.getElem_toArray, List.getElem_cons_zero, List.getElem_cons_succ, List.setIfInBounds_toArray, List.set_cons_zero, List.set_cons_succ]
            refine wpG_take (i := 27) (v := ?_) rfl (by kernel_rfl) rfl (by kernel_rfl) (by kernel_rfl) (fun _ _ _ h => h) (by rfl) ?_ (asks_none rfl _) ?_
            rotate_left
            · intro w _; go_simp; rfl
            simp only [Act.put, List.getElem_toArray, List.getElem_cons_zero, List.getElem_cons_succ, List.setIfInBounds_toArray, List.set_cons_zero, List.set_cons_succ]
            refine wpG_done (by kernel_rfl) ?_
            go_wp2
            go_roundw
            case rel => exact ⟨k + 1, by omega, by go_num, HST.out HOK2.out, (HBR.out.trans ((HB9x.out).mono HBR.out.size))⟩
            case measure => simp [intOf]; omega
          · have e3 : (so2 != so) = true := by rw [bne_iff_ne]; exact hq
            have HOK2 : Hid (argOk T so (j : Int) = false) := by show _ = _; rw [HOK.out, decide_eq_false hq]
            clear hq HOK
            go_wp2
            refine wp_region_G [8, 22] [(7, fun w' => w'.cell? ⟨w.heap.size, 2 + k, none⟩ = some (.int .i64 (j : Int))), (14, fun w' => w'.cell? ⟨p, 1, none⟩ = some (.slice (some ⟨bn, 0, none⟩) T.nodes.length c')), (18, fun w' => w'.cell? ⟨w.heap.size, 2 + k, none⟩ = some (.int .i64 (j : Int))), (21, fun w' => w'.cell? ⟨bn, j * 5, none⟩ = some (.int .i64 t.op))] (by kernel_rfl) ?_
            refine wpG_take (i := 0) (v := ?_) rfl (by kernel_rfl) rfl (by kernel_rfl) (by kernel_rfl) (fun _ _ _ h => h) (by rfl) ?_ (asks_none rfl _) ?_
            rotate_left
            · intro w _; go_simp; rfl
            simp only [Act.put, List.getElem_toArray, List.getElem_cons_zero, List.getElem_cons_succ, List.setIfInBounds_toArray, List.set_cons_zero, List.set_cons_succ]
            refine wpG_take (i := 1) (v := ?_) rfl (by kernel_rfl) rfl (by kernel_rfl) (by kernel_rfl) (fun _ _ _ h => h) (by rfl) ?_ (asks_none rfl _) ?_
            rotate_left
            · intro w _; go_simp; rfl
            simp only [Act.put, List.getElem_toArray, List.getElem_cons_zero, List.getElem_cons_succ, List.setIfInBounds_toArray, List.set_cons_zero, List.set_cons_succ]
            refine wpG_take (i := 2) (v := ?_) rfl (by kernel_rfl) rfl (by kernel_rfl) (by kernel_rfl) (fun _ _ _ h => h) (by rfl) ?_ (asks_none rfl _) ?_
            rotate_left
            · intro w _; go_simp; rfl
            simp only [Act.put, List.getElem_toArray, List.getElem_cons_zero, List.getElem_cons_succ, List.setIfInBounds_toArray, List.set_cons_zero, List.set_cons_succ]
            refine wpG_take (i := 3) (v := ?_) rfl (by kernel_rfl) rfl (by kernel_rfl) (by kernel_rfl) (fun _ _ _ h => h) (by rfl) ?_ (asks_none rfl _) ?_
            rotate_left
            · intro w _; go_simp; rfl
            simp only [Act.put, List.getElem_toArray, List.getElem_cons_zero, List.getElem_cons_succ, List.setIfInBounds_toArray, List.set_cons_zero, List.set_cons_succ]
            refine wpG_take (i := 4) (v := ?_) rfl (by kernel_rfl) rfl (by kernel_rfl) (by kernel_rfl) (fun _ _ _ h => h) (by rfl) ?_ (asks_none rfl _) ?_
            rotate_left
            · intro w _; go_simp; rfl
            simp only [Act.put, List.getElem_toArray, List.getElem_cons_zero, List.getElem_cons_succ, List.setIfInBounds_toArray, List.set_cons_zero, List.set_cons_succ]
            refine wpG_take (i := 5) (v := ?_) rfl (by kernel_rfl) rfl (by kernel_rfl) (by kernel_rfl) (fun _ _ _ h => h) (by rfl) ?_ (asks_none rfl _) ?_
            rotate_left
            · intro w _; go_simp; rfl
            simp only [Act.put, List.getElem_toArray, List.getElem_cons_zero, List.getElem_cons_succ, List.setIfInBounds_toArray, List.set_cons_zero, List.set_cons_succ]
            refine wpG_take (i := 6) (v := ?_) rfl (by kernel_rfl) rfl (by kernel_rfl) (by kernel_rfl) (fun _ _ _ h => h) (by rfl) ?_ (asks_none rfl _) ?_
            rotate_left
            · intro w _; go_simp; rfl
            simp only [Act.put, List.getElem_toArray, List.getElem_cons_zero, List.getElem_cons_succ, List.setIfInBounds_toArray, List.set_cons_zero, List.set_cons_succ]
            refine wpG_take (i := 7) (v := ?_) rfl (by kernel_rfl) rfl (by kernel_rfl) (by kernel_rfl) (fun _ _ _ h => h) (by rfl) ?_ (by simp [asksOf]; exact f7) ?_
            rotate_left
            · intro w hw; simp [asksOf] at hw; go_simp; rfl
            simp only [Act.put, List.getElem_toArray, List.getElem_cons_zero, List.getElem_cons_succ, List.setIfInBounds_toArray, List.set_cons_zero, List.set_cons_succ]
            refine wpG_loud (i := 8) rfl rfl rfl (by kernel_rfl) (fun K hK => ?_)
            go_simp
            refine (exists_any (HBr.out.drewN 1) (j : Int)).mono ?_
            rw [HAS.out]
            rintro e we ⟨rfl, rfl⟩
            refine hK _ _ ?_ ?_
            · intro q hq hwt; simp only [List.mem_cons, List.not_mem_nil, or_false] at hq; rcases hq with rfl | rfl | rfl | rfl
              · exact f7
              · exact f14
              · exact f7
              · exact f21
            clear hK K
            try simp only [Act.put, List.getElem_toArray, List.getElem_cons_zero, List.getElem_cons_succ, List.setIfInBounds_toArray, List.set_cons_zero, List.set_cons_succ]
            refine wpG_take (i := 9) (v := ?_) rfl (by kernel_rfl) rfl (by kernel_rfl) (by kernel_rfl) (fun _ _ _ h => h) (by rfl) ?_ (asks_none rfl _) ?_
            rotate_left
            · intro w _; go_simp; rfl
            simp only [Act.put, List.getElem_toArray, List.getElem_cons_zero, List.getElem_cons_succ, List.setIfInBounds_toArray, List.set_cons_zero, List.set_cons_succ]
            refine wpG_take (i := 10) (v := ?_) rfl (by kernel_rfl) rfl (by kernel_rfl) (by kernel_rfl) (fun _ _ _ h => h) (by rfl) ?_ (asks_none rfl _) ?_
            rotate_left
            · intro w _; go_simp; rfl
            simp only [Act.put, List.getElem_toArray, List.getElem_cons_zero, List.getElem_cons_succ, List.setIfInBounds_toArray, List.set_cons_zero, List.set_cons_succ]
            refine wpG_take (i := 11) (v := ?_) rfl (by kernel_rfl) rfl (by kernel_rfl) (by kernel_rfl) (fun _ _ _ h => h) (by rfl) ?_ (asks_none rfl _) ?_
            rotate_left
            · intro w _; go_simp; rfl
            simp only [Act.put, List.getElem_toArray, List.getElem_cons_zero, List.getElem_cons_succ, List.setIfInBounds_toArray, List.set_cons_zero, List.set_cons_succ]
            refine wpG_take (i := 12) (v := ?_) rfl (by kernel_rfl) rfl (by kernel_rfl) (by kernel_rfl) (fun _ _ _ h => h) (by rfl) ?_ (asks_none rfl _) ?_
            rotate_left
            · intro w _; go_simp; rfl
            simp only [Act.put, List.getElem_toArray, List.getElem_cons_zero, List.getElem_cons_succ, List.setIfInBounds_toArray, List.set_cons_zero, List.set_cons_succ]
            refine wpG_take (i := 13) (v := ?_) rfl (by kernel_rfl) rfl (by kernel_rfl) (by kernel_rfl) (fun _ _ _ h => h) (by rfl) ?_ (asks_none rfl _) ?_
            rotate_left
            · intro w _; go_simp; rfl
            simp only [Act.put, List.getElem_toArray, List.getElem_cons_zero, List.getElem_cons_succ, List.setIfInBounds_toArray, List.set_cons_zero, List.set_cons_succ]
            refine wpG_take (i := 14) (v := ?_) rfl (by kernel_rfl) rfl (by kernel_rfl) (by kernel_rfl) (fun _ _ _ h => h) (by rfl) ?_ (by simp [asksOf]; exact f14) ?_
            rotate_left
            · intro w hw; simp [asksOf] at hw; go_simp; rfl
            simp only [Act.put, List.getElem_toArray, List.getElem_cons_zero, List.getElem_cons_succ, List.setIfInBounds_toArray, List.set_cons_zero, List.set_cons_succ]
            refine wpG_take (i := 15) (v := ?_) rfl (by kernel_rfl) rfl (by kernel_rfl) (by kernel_rfl) (fun _ _ _ h => h) (by rfl) ?_ (asks_none rfl _) ?_
            rotate_left
            · intro w _; go_simp; rfl
            simp only [Act.put, List.getElem_toArray, List.getElem_cons_zero, List.getElem_cons_succ, List.setIfInBounds_toArray, List.set_cons_zero, List.set_cons_succ]
            refine wpG_take (i := 16) (v := ?_) rfl (by kernel_rfl) rfl (by kernel_rfl) (by kernel_rfl) (fun _ _ _ h => h) (by rfl) ?_ (asks_none rfl _) ?_
            rotate_left
            · intro w _; go_simp; rfl
            simp only [Act.put, List.getElem_toArray, List.getElem_cons_zero, List.getElem_cons_succ, List.setIfInBounds_toArray, List.set_cons_zero, List.set_cons_succ]
            refine wpG_take (i := 17) (v := ?_) rfl (by kernel_rfl) rfl (by kernel_rfl) (by kernel_rfl) (fun _ _ _ h => h) (by rfl) ?_ (asks_none rfl _) ?_
            rotate_left
            · intro w _; go_simp; rfl
            simp only [Act.put, List.getElem_toArray, List.getElem_cons_zero, List.getElem_cons_succ, List.setIfInBounds_toArray, List.set_cons_zero, List.set_cons_succ]
            refine wpG_take (i := 18) (v := ?_) rfl (by kernel_rfl) rfl (by kernel_rfl) (by kernel_rfl) (fun _ _ _ h => h) (by rfl) ?_ (by simp [asksOf]; exact f7) ?_
            rotate_left
            · intro w hw; simp [asksOf] at hw; go_simp; rfl
            simp only [Act.put, List.getElem_toArray, List.getElem_cons_zero, List.getElem_cons_succ, List.setIfInBounds_toArray, List.set_cons_zero, List.set_cons_succ]
            refine wpG_take (i := 19) (v := ?_) rfl (by kernel_rfl) rfl (by kernel_rfl) (by kernel_rfl) (fun _ _ _ h => h) (by rfl) ?_ (asks_none rfl _) ?_
            rotate_left
            · intro w _; go_simp; rfl
            simp only [Act.put, List.getElem_toArray, List.getElem_cons_zero, List.getElem_cons_succ, List.setIfInBounds_toArray, List.set_cons_zero, List.set_cons_succ]
            refine wpG_take (i := 20) (v := ?_) rfl (by kernel_rfl) rfl (by kernel_rfl) (by kernel_rfl) (fun _ _ _ h => h) (by rfl) ?_ (asks_none rfl _) ?_
            rotate_left
            · intro w _; go_simp; rfl
            simp only [Act.put, List.getElem_toArray, List.getElem_cons_zero, List.getElem_cons_succ, List.setIfInBounds_toArray, List.set_cons_zero, List.set_cons_succ]
            refine wpG_take (i := 21) (v := ?_) rfl (by kernel_rfl) rfl (by kernel_rfl) (by kernel_rfl) (fun _ _ _ h => h) (by rfl) ?_ (by simp [asksOf]; exact f21) ?_
            rotate_left
            · intro w hw; simp [asksOf] at hw; go_simp; rfl
            simp only [Act.put, List.getElem_toArray, List.getElem_cons_zero, List.getElem_cons_succ, List.setIfInBounds_toArray, List.set_cons_zero, List.set_cons_succ]
            refine wpG_take (i := 23) (v := ?_) rfl (by kernel_rfl) rfl (by kernel_rfl) (by kernel_rfl) (fun _ _ _ h => h) (by rfl) ?_ (asks_none rfl _) ?_
            rotate_left
            · intro w _; go_simp; rfl
            simp only [Act.put, List.getElem_toArray, List.getElem_cons_zero, List.getElem_cons_succ, List.setIfInBounds_toArray, List.set_cons_zero, List.set_cons_succ]
            refine wpG_loud (i := 22) rfl rfl rfl (by kernel_rfl) (fun K hK => ?_)
            go_simp
            refine (sort_any t.op _).mono ?_
            rw [HSO.out]
            rintro e w9 ⟨rfl, hb9⟩
            have hb9' : Below wr.heap.size wr w9 := (below_drewN (Below.refl _ _) 1).trans hb9
            have HB9 : Hid (Below w.heap.size w w9) := HBW.out.trans (hb9'.mono HBW.out.size)
            have HB9x := Lib.hid hb9'
            refine hK _ _ ?_ ?_
            · intro q hq hwt; simp only [List.mem_cons, List.not_mem_nil, or_false] at hq; rcases hq with rfl | rfl | rfl | rfl
              · exact (hb9'.cell (cell_lt f7)).trans f7
              · exact (hb9'.cell (cell_lt f14)).trans f14
              · exact (hb9'.cell (cell_lt f7)).trans f7
              · exact (hb9'.cell (cell_lt f21)).trans f21
            clear hK K hb9 hb9'
            try simp only [Act.put, List.getElem_toArray, List.getElem_cons_zero, List.getElem_cons_succ, List.setIfInBounds_toArray, List.set_cons_zero, List.set_cons_succ]
            refine wpG_take (i := 24) (v := ?_) rfl (by kernel_rfl) rfl (by kernel_rfl) (by kernel_rfl) (fun _ _ _ h => h) (by rfl) ?_ (asks_none rfl _) ?_
            rotate_left
            · intro w _; go_simp; rfl
            simp only [Act.put, List.getElem_toArray, List.getElem_cons_zero, List.getElem_cons_succ, List.setIfInBounds_toArray, List.set_cons_zero, List.set_cons_succ]
            refine wpG_take (i := 25) (v := ?_) rfl (by kernel_rfl) rfl (by kernel_rfl) (by kernel_rfl) (fun _ _ _ h => h) (by rfl) ?_ (asks_none rfl _) ?_
            rotate_left
            · intro w _; go_simp; rfl
            simp only [Act.put, List.getElem_toArray, List.getElem_cons_zero, List.getElem_cons_succ, List.setIfInBounds_toArray, List.set_cons_zero, List.set_cons_succ]
            refine wpG_take (i := 26) (v := ?_) rfl (by kernel_rfl) rfl (by kernel_rfl) (by kernel_rfl) (fun _ _ _ h => h) (by rfl) ?_ (asks_none rfl _) ?_
            rotate_left
            · intro w _; go_simp; rfl
            simp only [Act.put, List.getElem_toArray, List.getElem_cons_zero, List.getElem_cons_succ, List.setIfInBounds_toArray, List.set_cons_zero, List.set_cons_succ]
            refine wpG_take (i := 27) (v := ?_) rfl (by kernel_rfl) rfl (by kernel_rfl) (by kernel_rfl) (fun _ _ _ h => h) (by rfl) ?_ (asks_none rfl _) ?_
            rotate_left
            · intro w _; go_simp; rfl
            simp only [Act.put, List.getElem_toArray, List.getElem_cons_zero, List.getElem_cons_succ, List.setIfInBounds_toArray, List.set_cons_zero, List.set_cons_succ]
            refine wpG_done (by kernel_rfl) ?_
            go_wp2
            go_ret
            exact ⟨by rw [HNO2.out HOK2.out]; rfl, HB9.out⟩
    · obtain rfl : k = 3 := by omega
      have h3 : (argOk T (sAt s0 s1 s2 0) (sAt a b c 0) && argOk T (sAt s0 s1 s2 1) (sAt a b c 1) && argOk T (sAt s0 s1 s2 2) (sAt a b c 2) && decide (v = 0)) = decide (v = 0) := by
        rw [HALL.out 0 (by omega), HALL.out 1 (by omega), HALL.out 2 (by omega)]; rfl
      have H3 := Lib.hid h3
      have hq1 := (hbr.cell (cell_lt HQ1.out)).trans HQ1.out
      clear hall hbr h3
      by_cases hv : v = 0
      · have e0 : (v == 0) = true := by rw [hv]; rfl
        have HD : Hid (decide (v = 0) = true) := decide_eq_true hv
        clear hv
        go_wp2
        go_ret
        exact ⟨by rw [H3.out, HD.out]; rfl, HBW.out⟩
      · have e0 : (v == 0) = false := beq_eq_false_iff_ne.2 hv
        have HD : Hid (decide (v = 0) = false) := decide_eq_false hv
        clear hv
        go_wp2
        go_ret
        exact ⟨by rw [H3.out, HD.out]; rfl, HBW.out⟩
theorem fitsT_any (hb : Tb B0 w p m A c' T) (t : Tm) :
    Calls Try.prog 135 #[.pointer (some ⟨p, 0, none⟩), tagg t] w (FitRet w (fitsT T t)) := by
  obtain ⟨op, v, a, b, c⟩ := t
  rcases hf : formF op with _ | ⟨⟨s0, s1, s2⟩, s⟩
  · by_cases hz : a = 0 ∧ b = 0 ∧ c = 0
    · by_cases h0 : op = 0
      · subst h0
        by_cases h1 : v < 0
        · exact fits_0a hb 0 v a b c hz h1
        by_cases h2 : 24 ≤ v
        · exact fits_0b hb 0 v a b c hz h2
        · exact fits_0c hb 0 v a b c hz (by omega) (by omega)
      by_cases h1 : op = 1
      · subst h1
        by_cases h1 : v < 0
        · exact fits_1a hb 0 v a b c hz h1
        by_cases h2 : 24 ≤ v
        · exact fits_1b hb 0 v a b c hz h2
        · exact fits_1c hb 0 v a b c hz (by omega) (by omega)
      by_cases h2 : op = 2
      · subst h2; exact fits_2 hb 0 v a b c hz
      by_cases h3 : op = 3
      · subst h3
        by_cases h4 : v = 0
        · exact fits_3a hb 0 v a b c hz h4
        by_cases h5 : v = 1
        · exact fits_3b hb 0 v a b c hz h5
        · exact fits_3c hb 0 v a b c hz (by omega)
      exact fits_odd hb op v a b c hf hz h0 h1 h2 h3
    · exact fits_args hb op v a b c hf hz
  · exact fits_some hb op v a b c s0 s1 s2 s hf
end
end Go.Proofs.Ytgmcajojigedaaa
