/- The walk of (*Builder).And, the arguments in falling order, or equal; and And at any two literals. -/
import Derived.Test.YtgmcajojigedaaaGb
set_option linter.unusedSimpArgs false
set_option linter.unusedVariables false
namespace Go.Proofs.Ytgmcajojigedaaa
open Go.RowKit
open Go.ChangeMaps (setBlock heap_setBlock_same heap_setBlock_other)

set_option maxRecDepth 100000 in
set_option maxHeartbeats 1000000 in
theorem and_gt (B0 p m : Nat) (A : Option Addr) (c : Nat) (g : GS) (x y : Int) (w : World) (hB : B0 ≤ w.heap.size) (hb : Bd B0 w p m A c g) (hn : g.nodes < 65536) (hw : GWf g) (hx : isLit g x) (hy : isLit g y) (hxy : x < y) :
    Calls Try.prog 107 #[.pointer (some ⟨p, 0, none⟩), .int .i64 y, .int .i64 x] w (GRet B0 p m w (andF g y x).1 (andF g y x).2) := by
  have c3 := hb.cell3
  have HB := Lib.hid hb
  clear hb
  have hlits : ∀ z ∈ [y, x], isLit g z := by intro z hz; simp at hz; rcases hz with rfl | rfl <;> assumption
  have hb1 : Below w.heap.size w (w.alloc (.cells #[.int .i64 y, .int .i64 x] 3)) := (Below.refl _ _).alloc (Nat.le_refl _) _
  have hx0 := hx.1
  have hx1 := hx.2
  have hy0 := hy.1
  have hy1 := hy.2
  have hmin : min y x = x := by omega
  have hmax : max y x = y := by omega
  have HF : Hid (andF g y x = if x = 0 ∨ x = notL y then (g, 0) else if x = 1 ∨ x = y then (g, y) else match g.gates.findIdx? (· == (x, y)) with
    | some i => (g, 2 * ((1 + g.inputs + i : Nat) : Int))
    | none => ({ g with gates := g.gates ++ [(x, y)] }, 2 * (g.nodes : Int))) := by show _ = _; unfold andF; rw [hmin, hmax]; try rfl
  clear hmin hmax
  have hyb : y < 9223372036854775807 := by omega
  have hxy' : (x == y) = false := by rw [beq_eq_false_iff_ne]; omega
  by_cases h1 : x = 0 ∨ x = notL y
  · have HF2 : Hid (andF g y x = (g, 0)) := by show _ = _; rw [HF.out, if_pos h1]
    have fin : ∀ w1, Below (w.alloc (.cells #[.int .i64 y, .int .i64 x] 3)).heap.size (w.alloc (.cells #[.int .i64 y, .int .i64 x] 3)) w1 → GRet B0 p m w (andF g y x).1 (andF g y x).2 (.returned (.int .i64 0)) w1 := fun w1 h => by
      have h' : Below w.heap.size w w1 := hb1.trans (h.mono (by simp))
      rw [HF2.out]; exact ⟨A, c, rfl, HB.out.below h', .of_below h'⟩
    have FIN := Lib.hid fin
    clear fin
    by_cases hz : x = 0
    · have e0 : (x == 0) = true := by rw [hz]; rfl
      clear h1 hz
      go_enter Try.func107, Try.ntmps107
      go_wp2_with (go_at_call 141; refine (literal_any B0 p m A c g [y, x] _ 2 _ (HB.out.below hb1) (by omega) (sl_new (Value.int .i64) 3 w B0 [y, x] (by simp)) hlits).mono ?_; rintro e w1 ⟨rfl, hb2⟩)
      go_ret
      exact FIN.out w1 hb2
    · have e0 : (x == 0) = false := by rw [beq_eq_false_iff_ne]; exact hz
      have e1 : (x == notL y) = true := by rw [beq_iff_eq]; exact h1.resolve_left hz
      clear h1 hz
      go_enter Try.func107, Try.ntmps107
      go_wp2_with (first
        | (go_at_call 141; refine (literal_any B0 p m A c g [y, x] _ 2 _ (HB.out.below hb1) (by omega) (sl_new (Value.int .i64) 3 w B0 [y, x] (by simp)) hlits).mono ?_; rintro e w1 ⟨rfl, hb2⟩)
        | (go_at_call 108; refine (not_any _ _ (by omega) (by omega)).mono ?_; rintro e w' ⟨rfl, rfl⟩))
      go_ret
      exact FIN.out w1 hb2
  · have e0 : (x == 0) = false := by rw [beq_eq_false_iff_ne]; exact fun h => h1 (.inl h)
    have e1 : (x == notL y) = false := by rw [beq_eq_false_iff_ne]; exact fun h => h1 (.inr h)
    by_cases h2 : x = 1
    · have HF2 : Hid (andF g y x = (g, y)) := by show _ = _; rw [HF.out, if_neg h1, if_pos (.inl h2)]
      have e2 : (x == 1) = true := by rw [h2]; rfl
      have fin : ∀ w1, Below (w.alloc (.cells #[.int .i64 y, .int .i64 x] 3)).heap.size (w.alloc (.cells #[.int .i64 y, .int .i64 x] 3)) w1 → GRet B0 p m w (andF g y x).1 (andF g y x).2 (.returned (.int .i64 y)) w1 := fun w1 h => by
        have h' : Below w.heap.size w w1 := hb1.trans (h.mono (by simp))
        rw [HF2.out]; exact ⟨A, c, rfl, HB.out.below h', .of_below h'⟩
      have FIN := Lib.hid fin
      clear fin h1 h2
      go_enter Try.func107, Try.ntmps107
      go_wp2_with (first
        | (go_at_call 141; refine (literal_any B0 p m A c g [y, x] _ 2 _ (HB.out.below hb1) (by omega) (sl_new (Value.int .i64) 3 w B0 [y, x] (by simp)) hlits).mono ?_; rintro e w1 ⟨rfl, hb2⟩)
        | (go_at_call 108; refine (not_any _ _ (by omega) (by omega)).mono ?_; rintro e w' ⟨rfl, rfl⟩))
      go_ret
      exact FIN.out w1 hb2
    · have e2 : (x == 1) = false := by rw [beq_eq_false_iff_ne]; exact h2
      have HF2 : Hid (andF g y x = match g.gates.findIdx? (· == (x, y)) with
        | some i => (g, 2 * ((1 + g.inputs + i : Nat) : Int))
        | none => ({ g with gates := g.gates ++ [(x, y)] }, 2 * (g.nodes : Int))) := by show _ = _; rw [HF.out, if_neg h1, if_neg (by omega)]
      clear HF h1 h2
      go_enter Try.func107, Try.ntmps107
      go_wp2_with (first
        | (go_at_call 141; refine (literal_any B0 p m A c g [y, x] _ 2 _ (HB.out.below hb1) (by omega) (sl_new (Value.int .i64) 3 w B0 [y, x] (by simp)) hlits).mono ?_; rintro e w1 ⟨rfl, hb2⟩)
        | (go_at_call 108; refine (not_any _ _ (by omega) (by omega)).mono ?_; rintro e w' ⟨rfl, rfl⟩))
      have hb3 := HB.out.below (hb1.trans (hb2.mono (by simp)))
      have hb4 := hb3.below ((Below.refl w1.heap.size w1).alloc (Nat.le_refl _) (.cells #[.int .i64 x, .int .i64 y] 123))
      have c0' := hb4.cell0
      have c1' := hb4.cell1
      have c2' := hb4.cell2
      have c3' := hb4.cell3
      have HB4 := Lib.hid hb4
      have HW1 : Hid (Below w.heap.size w w1) := hb1.trans (hb2.mono (by simp))
      have HB3 := Lib.hid hb3
      clear hb3 hb4 hb2 hb1
      have hmm : ∀ nq, ((w1.alloc (.cells #[.int .i64 x, .int .i64 y] 123)).drewN nq).heap[m]? = some (.map (gents g).toArray g.gates.length) := fun _ => HB4.out.map
      have hil : g.inputs + g.gates.length < 65536 := by unfold GS.nodes at hn; omega
      have hxs : 0 ≤ x ∧ x ≤ 1000000 := by omega
      have hys : 0 ≤ y ∧ y ≤ 1000000 := by omega
      rcases find_gate g x y hw hxs hys _ (hmm 0) with ⟨i, hi, _⟩ | ⟨hi, _⟩
      · have hrun : ∀ nq, (Instr.lookup 114 (.map (some m)) (.agg #[.int .i64 x, .int .i64 y]) true).run Try.prog ((w1.alloc (.cells #[.int .i64 x, .int .i64 y] 123)).drewN nq) = .ok (.tuple #[.int .i64 ((1 + g.inputs + i : Nat) : Int), .bool true]) ((w1.alloc (.cells #[.int .i64 x, .int .i64 y] 123)).drewN nq) := fun nq => by
          rcases find_gate g x y hw hxs hys _ (hmm nq) with ⟨j, hj, h⟩ | ⟨hj, _⟩
          · rw [hi] at hj; cases hj; exact h
          · rw [hi] at hj; cases hj
        have hlt : i < g.gates.length := by
          obtain ⟨h, _⟩ := List.findIdx?_eq_some_iff_getElem.1 hi; exact h
        have HF3 : Hid (andF g y x = (g, 2 * ((1 + g.inputs + i : Nat) : Int))) := by show _ = _; rw [HF2.out, hi]
        clear hmm hi
        go_quiet (fail)
        clear hrun
        go_wp2_with fail
        go_ret
        have hfin : Below w.heap.size w ((w1.alloc (.cells #[.int .i64 x, .int .i64 y] 123)).drewN nq) := below_drewN (HW1.out.alloc HW1.out.size _) nq
        rw [HF3.out]
        exact ⟨A, c, by simp, HB4.out.drewN nq, .of_below hfin⟩
      · have hrun : ∀ nq, (Instr.lookup 114 (.map (some m)) (.agg #[.int .i64 x, .int .i64 y]) true).run Try.prog ((w1.alloc (.cells #[.int .i64 x, .int .i64 y] 123)).drewN nq) = .ok (.tuple #[.int .i64 0, .bool false]) ((w1.alloc (.cells #[.int .i64 x, .int .i64 y] 123)).drewN nq) := fun nq => by
          rcases find_gate g x y hw hxs hys _ (hmm nq) with ⟨j, hj, _⟩ | ⟨_, h⟩
          · rw [hi] at hj; cases hj
          · exact h
        have HF3 : Hid (andF g y x = ({ g with gates := g.gates ++ [(x, y)] }, 2 * (g.nodes : Int))) := by show _ = _; rw [HF2.out, hi]
        have HI := Lib.hid hi
        clear hmm hi
        go_quiet (fail)
        clear hrun
        have hxs' := hxs
        have hys' := hys
        have HN : Hid (g.nodes < 65536) := hn
        have hgl : Hid (g.gates.length < 65536) := by show _ < _; omega
        have hxs' := hxs
        have hys' := hys
        have hgl : Hid (g.gates.length < 65536) := by show _ < _; omega
        have hxs' := hxs
        have hys' := hys
        have hgl : Hid (g.gates.length < 65536) := by show _ < _; omega
        have hxs' := hxs
        have hys' := hys
        have hgl : Hid (g.gates.length < 65536) := by show _ < _; omega
        have hxs' := hxs
        have hys' := hys
        have hgl : Hid (g.gates.length < 65536) := by show _ < _; omega
        have E1 : Hid ((1 : Int) + g.inputs + g.gates.length = g.nodes) := by show _ = _; unfold GS.nodes; omega
        have hge : decide ((65536 : Int) ≤ (g.nodes : Int)) = false := decide_eq_false (by omega)
        clear hn
        go_wp2_with (go_at_call 101; refine (nodes_any _ _ _ _ _ (by omega) (by omega) (by omega)).mono ?_; rintro e w2 ⟨rfl, hb5⟩; rw [E1.out]; clear hxs hys hil hx1 hy1 hyb)
        have hbd2 := (HB4.out.drewN nq).below hb5
        have hK2 : w2.heap[w1.heap.size]? = some (.cells #[.int .i64 x, .int .i64 y] 123 (0, 0)) := (hb5.block w1.heap.size (by simp)).trans (heap_alloc_new w1 _)
        have hpK : p < w1.heap.size := lt_of_some HB3.out.blk
        have hmK : m < w1.heap.size := lt_of_some HB3.out.map
        have hKA : (Value.slice A g.gates.length c).ownBlock ≠ some w1.heap.size := fun h => by
          have := (World.ownsRow.lt HB3.out.own _ h).2
          omega
        have hB2 : B0 ≤ w2.heap.size := by have := HB3.out.hp; have := lt_of_some hbd2.blk; omega
        have hown2 := hbd2.own
        have hKlt : w1.heap.size < w2.heap.size := lt_of_some hK2
        have k1 := hbd2.cell1
        have k2 := hbd2.cell2
        have kf := hbd2.frz 1
        have kK0 : w2.cell? ⟨w1.heap.size, 0, none⟩ = some (.int .i64 x) := by simp [World.cell?, hK2]
        have kK1 : w2.cell? ⟨w1.heap.size, 1, none⟩ = some (.int .i64 y) := by simp [World.cell?, hK2]
        obtain ⟨i0, hi0, hz0, hz1, hz2⟩ := info_parts Try.info123
        have hpm : p ≠ m := fun h => by have := hbd2.blk; rw [h, hbd2.map] at this; cases this
        have HBD := Lib.hid hbd2
        have HW2 : Hid (Below w.heap.size w w2) := (below_drewN (HW1.out.alloc HW1.out.size _) nq).trans (hb5.mono (by have := HW1.out.size; simp; omega))
        have HK2 := Lib.hid hK2
        clear hbd2 hK2 hb5 c0' c1' c2' c3'
        have hu := Try.underlying123
        have al : ∀ (q : Addr) (v : Value), w2.cell? q = some v → ((w2.alloc (.cells #[.int .i64 x, .int .i64 y] 123)).drew).cell? q = some v := fun q v h => (World.cell?_alloc_lt w2 _ q (World.block_lt_of_cell? w2 q h)).trans h
        have AL := Lib.hid al
        clear al
        refine wp_region_G [12, 13, 18, 19, 21] [(4, fun w' => w'.cell? ⟨p, 2, none⟩ = some (.map (some m))), (5, fun w' => w'.cell? ⟨w1.heap.size, 0, none⟩ = some (.int .i64 x) ∧ w'.cell? ⟨w1.heap.size, 1, none⟩ = some (.int .i64 y)), (10, fun w' => w'.cell? ⟨p, 1, none⟩ = some (.slice A g.gates.length c)), (11, fun w' => w'.cell? ⟨w1.heap.size, 0, none⟩ = some (.int .i64 x) ∧ w'.cell? ⟨w1.heap.size, 1, none⟩ = some (.int .i64 y))] (by kernel_rfl) ?_
        refine wpG_take (i := 0) (v := ?_) rfl (by kernel_rfl) rfl (by kernel_rfl) (by kernel_rfl) (fun _ _ _ h => h) (by rfl) ?_ (asks_none rfl _) ?_
        rotate_left
        · intro w _; go_simp; rfl
        simp only [Act.put, List.setIfInBounds_toArray, List.set_cons_zero, List.set_cons_succ]
        refine wpG_take (i := 1) (v := ?_) rfl (by kernel_rfl) rfl (by kernel_rfl) (by kernel_rfl) (fun _ _ _ h => h) (by rfl) ?_ (asks_none rfl _) ?_
        rotate_left
        · intro w _; go_simp; rfl
        simp only [Act.put, List.setIfInBounds_toArray, List.set_cons_zero, List.set_cons_succ]
        refine wpG_take (i := 2) (v := ?_) rfl (by kernel_rfl) rfl (by kernel_rfl) (by kernel_rfl) (fun _ _ _ h => h) (by rfl) ?_ (asks_none rfl _) ?_
        rotate_left
        · intro w _; go_simp; rfl
        simp only [Act.put, List.setIfInBounds_toArray, List.set_cons_zero, List.set_cons_succ]
        refine wpG_take (i := 3) (v := ?_) rfl (by kernel_rfl) rfl (by kernel_rfl) (by kernel_rfl) (fun _ _ _ h => h) (by rfl) ?_ (asks_none rfl _) ?_
        rotate_left
        · intro w _; go_simp; rfl
        simp only [Act.put, List.setIfInBounds_toArray, List.set_cons_zero, List.set_cons_succ]
        refine wpG_take (i := 4) (v := ?_) rfl (by kernel_rfl) rfl (by kernel_rfl) (by kernel_rfl) (fun _ _ _ h => h) (by rfl) ?_ (by simp [asksOf]; exact k2) ?_
        rotate_left
        · intro w hw; simp [asksOf] at hw; go_simp; rfl
        simp only [Act.put, List.setIfInBounds_toArray, List.set_cons_zero, List.set_cons_succ]
        refine wpG_take (i := 5) (v := ?_) rfl (by kernel_rfl) rfl (by kernel_rfl) (by kernel_rfl) (fun _ _ _ h => h) (by rfl) ?_ (by simp [asksOf]; exact ⟨kK0, kK1⟩) ?_
        rotate_left
        · intro w hw; simp [asksOf] at hw; obtain ⟨hw0, hw1⟩ := hw; go_simp; rfl
        simp only [Act.put, List.setIfInBounds_toArray, List.set_cons_zero, List.set_cons_succ]
        refine wpG_take (i := 6) (v := ?_) rfl (by kernel_rfl) rfl (by kernel_rfl) (by kernel_rfl) (fun _ _ _ h => h) (by rfl) ?_ (asks_none rfl _) ?_
        rotate_left
        · intro w _; go_simp; rfl
        simp only [Act.put, List.setIfInBounds_toArray, List.set_cons_zero, List.set_cons_succ]
        refine wpG_take (i := 7) (v := ?_) rfl (by kernel_rfl) rfl (by kernel_rfl) (by kernel_rfl) (fun _ _ _ h => h) (by rfl) ?_ (asks_none rfl _) ?_
        rotate_left
        · intro w _; go_simp; rfl
        simp only [Act.put, List.setIfInBounds_toArray, List.set_cons_zero, List.set_cons_succ]
        refine wpG_take (i := 8) (v := ?_) rfl (by kernel_rfl) rfl (by kernel_rfl) (by kernel_rfl) (fun _ _ _ h => h) (by rfl) ?_ (asks_none rfl _) ?_
        rotate_left
        · intro w _; go_simp; rfl
        simp only [Act.put, List.setIfInBounds_toArray, List.set_cons_zero, List.set_cons_succ]
        refine wpG_take (i := 9) (v := ?_) rfl (by kernel_rfl) rfl (by kernel_rfl) (by kernel_rfl) (fun _ _ _ h => h) (by rfl) ?_ (asks_none rfl _) ?_
        rotate_left
        · intro w _; go_simp; rfl
        simp only [Act.put, List.setIfInBounds_toArray, List.set_cons_zero, List.set_cons_succ]
        refine wpG_take (i := 10) (v := ?_) rfl (by kernel_rfl) rfl (by kernel_rfl) (by kernel_rfl) (fun _ _ _ h => h) (by rfl) ?_ (by simp [asksOf]; exact k1) ?_
        rotate_left
        · intro w hw; simp [asksOf] at hw; go_simp; rfl
        simp only [Act.put, List.setIfInBounds_toArray, List.set_cons_zero, List.set_cons_succ]
        refine wpG_take (i := 11) (v := ?_) rfl (by kernel_rfl) rfl (by kernel_rfl) (by kernel_rfl) (fun _ _ _ h => h) (by rfl) ?_ (by simp [asksOf]; exact ⟨kK0, kK1⟩) ?_
        rotate_left
        · intro w hw; simp [asksOf] at hw; obtain ⟨hw0, hw1⟩ := hw; go_simp; rfl
        simp only [Act.put, List.setIfInBounds_toArray, List.set_cons_zero, List.set_cons_succ]
        refine wpG_take (i := 14) (v := ?_) rfl (by kernel_rfl) rfl (by kernel_rfl) (by kernel_rfl) (fun _ _ _ h => h) (by rfl) ?_ (asks_none rfl _) ?_
        rotate_left
        · intro w _; go_simp; rfl
        simp only [Act.put, List.setIfInBounds_toArray, List.set_cons_zero, List.set_cons_succ]
        refine wpG_loud (i := 12) rfl rfl rfl (by kernel_rfl) (fun K hK => ?_)
        go_simp
        refine hK _ _ ?_ ?_
        · intro q hq hwt; simp only [List.mem_cons, List.not_mem_nil, or_false] at hq; rcases hq with rfl | rfl | rfl | rfl
          · exact AL.out _ _ k2
          · exact ⟨AL.out _ _ kK0, AL.out _ _ kK1⟩
          · exact AL.out _ _ k1
          · exact Bool.noConfusion (hwt.symm.trans (show _ = true from by kernel_rfl))
        clear hK K
        refine wpG_loud (i := 13) rfl rfl rfl (by kernel_rfl) (fun K hK => ?_)
        refine wp_append_lies _ _ _ _ rfl B0 123 i0 _ 2 16 Try.underlying57 hi0 hz0 hz1 hz2 rfl (by omega) _ _ _ rfl ((hown2.alloc _).drew) ⟨w2.heap.size, 0, none⟩ 1 1 [.int .i64 x, .int .i64 y] rfl rfl (World.news_of_block (cs := #[.int .i64 x, .int .i64 y]) (t := 123) (fr := (0, 0)) (heap_alloc_new w2 _)) (by simp [Value.oneCell']) (by omega) ?b1 ?b2 ?b3 (w2.heap.size + 1) (by simp) ?_
        case b1 => unfold maxLen; have := hgl.out; omega
        case b2 => have := hgl.out; omega
        case b3 => simp; omega
        intro G cap w3 hown3 hgrow hat hlt
        obtain ⟨⟨hp3, hK3⟩, hme, hes, hfin⟩ := and_push (K := w1.heap.size) ((HBD.out.below ((Below.refl _ _).alloc (Nat.le_refl _) (.cells #[.int .i64 x, .int .i64 y] 123))).drewN 1) hw hxs' hys' HI.out hgrow hown3 ((Below.heap_alloc w2 _ _ hKlt).trans HK2.out) hKA (by omega) (by omega)
        have HFIN := Lib.hid hfin
        have q1 : w3.cell? ⟨p, 1, none⟩ = some (.slice A g.gates.length c) := by simp [World.cell?, hp3]
        have q2 : w3.cell? ⟨p, 2, none⟩ = some (.map (some m)) := by simp [World.cell?, hp3]
        have q3 : w3.cell? ⟨w1.heap.size, 0, none⟩ = some (.int .i64 x) := by simp [World.cell?, hK3]
        have q4 : w3.cell? ⟨w1.heap.size, 1, none⟩ = some (.int .i64 y) := by simp [World.cell?, hK3]
        have qf : w3.frozen? ⟨p, 1, none⟩ = false := by simp [World.frozen?, hp3]
        clear hfin hp3 hK3 hat
        refine hK _ _ ?_ ?_
        · intro q hq hwt; simp only [List.mem_cons, List.not_mem_nil, or_false] at hq; rcases hq with rfl | rfl | rfl | rfl
          · exact q2
          · exact ⟨q3, q4⟩
          · exact Bool.noConfusion (hwt.symm.trans (show _ = true from by kernel_rfl))
          · exact ⟨q3, q4⟩
        clear hK K
        simp only [Act.put, List.setIfInBounds_toArray, List.set_cons_zero, List.set_cons_succ]
        refine wpG_take (i := 15) (v := ?_) rfl (by kernel_rfl) rfl (by kernel_rfl) (by kernel_rfl) (fun _ _ _ h => h) (by rfl) ?_ (asks_none rfl _) ?_
        rotate_left
        · intro w _; go_simp; rfl
        simp only [Act.put, List.setIfInBounds_toArray, List.set_cons_zero, List.set_cons_succ]
        refine wpG_take (i := 16) (v := ?_) rfl (by kernel_rfl) rfl (by kernel_rfl) (by kernel_rfl) (fun _ _ _ h => h) (by rfl) ?_ (asks_none rfl _) ?_
        rotate_left
        · intro w _; go_simp; rfl
        simp only [Act.put, List.setIfInBounds_toArray, List.set_cons_zero, List.set_cons_succ]
        refine wpG_take (i := 17) (v := ?_) rfl (by kernel_rfl) rfl (by kernel_rfl) (by kernel_rfl) (fun _ _ _ h => h) (by rfl) ?_ (asks_none rfl _) ?_
        rotate_left
        · intro w _; go_simp; rfl
        simp only [Act.put, List.setIfInBounds_toArray, List.set_cons_zero, List.set_cons_succ]
        refine wpG_loud (i := 18) rfl rfl rfl (by kernel_rfl) (fun K hK => ?_)
        go_simp
        refine hK _ _ ?_ ?_
        · intro q hq hwt; simp only [List.mem_cons, List.not_mem_nil, or_false] at hq; rcases hq with rfl | rfl | rfl | rfl
          · exact Bool.noConfusion (hwt.symm.trans (show _ = true from by kernel_rfl))
          · exact ⟨(World.cell?_setCell_other w3 _ _ _ (by simp)).trans q3, (World.cell?_setCell_other w3 _ _ _ (by simp)).trans q4⟩
          · exact Bool.noConfusion (hwt.symm.trans (show _ = true from by kernel_rfl))
          · exact Bool.noConfusion (hwt.symm.trans (show _ = true from by kernel_rfl))
        clear hK K
        refine wpG_loud (i := 19) rfl rfl rfl (by kernel_rfl) (fun K hK => ?_)
        go_simp
        refine hK _ _ ?_ ?_
        · intro q hq hwt; simp only [List.mem_cons, List.not_mem_nil, or_false] at hq; rcases hq with rfl | rfl | rfl | rfl
          · exact Bool.noConfusion (hwt.symm.trans (show _ = true from by kernel_rfl))
          · exact Bool.noConfusion (hwt.symm.trans (show _ = true from by kernel_rfl))
          · exact Bool.noConfusion (hwt.symm.trans (show _ = true from by kernel_rfl))
          · exact Bool.noConfusion (hwt.symm.trans (show _ = true from by kernel_rfl))
        clear hK K
        refine wpG_take (i := 20) (v := ?_) rfl (by kernel_rfl) rfl (by kernel_rfl) (by kernel_rfl) (fun _ _ _ h => h) (by rfl) ?_ (asks_none rfl _) ?_
        rotate_left
        · intro w _; go_simp; rfl
        simp only [Act.put, List.setIfInBounds_toArray, List.set_cons_zero, List.set_cons_succ]
        refine wpG_loud (i := 21) rfl rfl rfl (by kernel_rfl) (fun K hK => ?_)
        go_simp
        refine hK _ _ ?_ ?_
        · intro q hq hwt; simp only [List.mem_cons, List.not_mem_nil, or_false] at hq; rcases hq with rfl | rfl | rfl | rfl
          · exact Bool.noConfusion (hwt.symm.trans (show _ = true from by kernel_rfl))
          · exact Bool.noConfusion (hwt.symm.trans (show _ = true from by kernel_rfl))
          · exact Bool.noConfusion (hwt.symm.trans (show _ = true from by kernel_rfl))
          · exact Bool.noConfusion (hwt.symm.trans (show _ = true from by kernel_rfl))
        clear hK K
        refine wpG_done (by kernel_rfl) ?_
        go_wp2
        go_ret
        have hf0 : Fr B0 [116, 123] [m] w ((w2.alloc (.cells #[.int .i64 x, .int .i64 y] 123)).drewN 1) := .of_below (below_drewN (HW2.out.alloc HW2.out.size _) 1)
        rw [HF3.out]
        exact ⟨_, _, by simp; have := HN.out; unfold wrap64; omega, HFIN.out.1, hf0.trans HFIN.out.2⟩

set_option maxHeartbeats 1000000 in
theorem and_eq (B0 p m : Nat) (A : Option Addr) (c : Nat) (g : GS) (x : Int) (w : World) (hb : Bd B0 w p m A c g) (hn : g.nodes < 65536) (hx : isLit g x) :
    Calls Try.prog 107 #[.pointer (some ⟨p, 0, none⟩), .int .i64 x, .int .i64 x] w (GRet B0 p m w (andF g x x).1 (andF g x x).2) := by
  have c3 := hb.cell3
  have HB := Lib.hid hb
  clear hb
  have hlits : ∀ z ∈ [x, x], isLit g z := by intro z hz; simp at hz; rcases hz with rfl | rfl <;> assumption
  have hb1 : Below w.heap.size w (w.alloc (.cells #[.int .i64 x, .int .i64 x] 3)) := (Below.refl _ _).alloc (Nat.le_refl _) _
  have hx0 := hx.1
  have hx1 := hx.2
  have hmin : min x x = x := by omega
  have hmax : max x x = x := by omega
  have hnx := notL_cases x
  have HF : Hid (andF g x x = (g, x)) := by
    show _ = _; unfold andF; rw [hmin, hmax]
    by_cases h : x = 0
    · rw [if_pos (.inl h), h]
    · rw [if_neg (by omega), if_pos (.inr rfl)]
  have fin : ∀ w1, Below (w.alloc (.cells #[.int .i64 x, .int .i64 x] 3)).heap.size (w.alloc (.cells #[.int .i64 x, .int .i64 x] 3)) w1 → GRet B0 p m w (andF g x x).1 (andF g x x).2 (.returned (.int .i64 x)) w1 := fun w1 h => by
    have h' : Below w.heap.size w w1 := hb1.trans (h.mono (by simp))
    rw [HF.out]; exact ⟨A, c, rfl, HB.out.below h', .of_below h'⟩
  have FIN := Lib.hid fin
  clear fin hmin hmax
  have e1 : (x == notL x) = false := by rw [beq_eq_false_iff_ne]; omega
  clear hnx
  by_cases hz : x = 0
  · subst hz
    go_enter Try.func107, Try.ntmps107
    go_wp2_with (go_at_call 141; refine (literal_any B0 p m A c g [0, 0] _ 2 _ (HB.out.below hb1) (by omega) (sl_new (Value.int .i64) 3 w B0 [0, 0] (by simp)) hlits).mono ?_; rintro e w1 ⟨rfl, hb2⟩)
    all_goals (go_ret; exact FIN.out w1 hb2)
  · have e0 : (x == 0) = false := by rw [beq_eq_false_iff_ne]; exact hz
    by_cases h1 : x = 1
    · have e2 : (x == 1) = true := by rw [h1]; rfl
      clear h1 hz
      go_enter Try.func107, Try.ntmps107
      go_wp2_with (first
        | (go_at_call 141; refine (literal_any B0 p m A c g [x, x] _ 2 _ (HB.out.below hb1) (by omega) (sl_new (Value.int .i64) 3 w B0 [x, x] (by simp)) hlits).mono ?_; rintro e w1 ⟨rfl, hb2⟩)
        | (go_at_call 108; refine (not_any _ _ (by omega) (by omega)).mono ?_; rintro e w' ⟨rfl, rfl⟩))
      all_goals (go_ret; exact FIN.out w1 hb2)
    · have e2 : (x == 1) = false := by rw [beq_eq_false_iff_ne]; exact h1
      clear h1 hz
      go_enter Try.func107, Try.ntmps107
      go_wp2_with (first
        | (go_at_call 141; refine (literal_any B0 p m A c g [x, x] _ 2 _ (HB.out.below hb1) (by omega) (sl_new (Value.int .i64) 3 w B0 [x, x] (by simp)) hlits).mono ?_; rintro e w1 ⟨rfl, hb2⟩)
        | (go_at_call 108; refine (not_any _ _ (by omega) (by omega)).mono ?_; rintro e w' ⟨rfl, rfl⟩))
      all_goals (go_ret; exact FIN.out w1 hb2)

theorem and_any (B0 p m : Nat) (A : Option Addr) (c : Nat) (g : GS) (x y : Int) (w : World) (hB : B0 ≤ w.heap.size) (hb : Bd B0 w p m A c g) (hn : g.nodes < 65536) (hw : GWf g) (hx : isLit g x) (hy : isLit g y) :
    Calls Try.prog 107 #[.pointer (some ⟨p, 0, none⟩), .int .i64 x, .int .i64 y] w (GRet B0 p m w (andF g x y).1 (andF g x y).2) := by
  rcases Int.lt_trichotomy x y with h | rfl | h
  · exact and_lt B0 p m A c g x y w hB hb hn hw hx hy h
  · exact and_eq B0 p m A c g x w hb hn hx
  · exact and_gt B0 p m A c g y x w hB hb hn hw hy hx h
end Go.Proofs.Ytgmcajojigedaaa
