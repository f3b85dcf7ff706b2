/- The walk of (*Builder).And, the arguments in falling order, or equal; and And at any two literals. Or, Xor and Mux of a builder: what they do to the content, and their walks. The walks of Circuit, Valid, known and Eval. -/
import Derived.Test.YtgmcajojigedaaaGb
set_option linter.unusedSimpArgs false
set_option linter.unusedVariables false
namespace Go.Proofs.Ytgmcajojigedaaa
open Go.RowKit
open Go.ChangeMaps (setBlock heap_setBlock_same heap_setBlock_other)

set_option maxRecDepth 100000 in
set_option maxHeartbeats 1000000 in
theorem and_gt (B0 p m : Nat) (A : Option Addr) (c : Nat) (g : GS) (x y : Int) (w : World) (hB : B0 ≤ w.heap.size) (hb : Bd B0 w p m A c g) (hn : g.nodes < 65536) (hw : GWf g) (hx : isLit g x) (hy : isLit g y) (hxy : x < y) :
    Calls Try.prog 107 #[.pointer (some ⟨p, 0, none⟩), .int .i64 y, .int .i64 x] w (GRet B0 p m w (andF g y x).1 (andF g y x).2) := by
  have c3 := hb.cell3
  have HB := Lib.hid hb
  clear hb
  have hlits : ∀ z ∈ [y, x], isLit g z := by intro z hz; simp at hz; rcases hz with rfl | rfl <;> assumption
  have hb1 : Below w.heap.size w (w.alloc (.cells #[.int .i64 y, .int .i64 x] 3)) := (Below.refl _ _).alloc (Nat.le_refl _) _
  have hx0 := hx.1
  have hx1 := hx.2
  have hy0 := hy.1
  have hy1 := hy.2
  have hmin : min y x = x := by omega
  have hmax : max y x = y := by omega
  have HF : Hid (andF g y x = if x = 0 ∨ x = notL y then (g, 0) else if x = 1 ∨ x = y then (g, y) else match g.gates.findIdx? (· == (x, y)) with
    | some i => (g, 2 * ((1 + g.inputs + i : Nat) : Int))
    | none => ({ g with gates := g.gates ++ [(x, y)] }, 2 * (g.nodes : Int))) := by show _ = _; unfold andF; rw [hmin, hmax]; try rfl
  clear hmin hmax
  have hyb : y < 9223372036854775807 := by omega
  have hxy' : (x == y) = false := by rw [beq_eq_false_iff_ne]; omega
  by_cases h1 : x = 0 ∨ x = notL y
  · have HF2 : Hid (andF g y x = (g, 0)) := by show _ = _; rw [HF.out, if_pos h1]
    have fin : ∀ w1, Below (w.alloc (.cells #[.int .i64 y, .int .i64 x] 3)).heap.size (w.alloc (.cells #[.int .i64 y, .int .i64 x] 3)) w1 → GRet B0 p m w (andF g y x).1 (andF g y x).2 (.returned (.int .i64 0)) w1 := fun w1 h => by
      have h' : Below w.heap.size w w1 := hb1.trans (h.mono (by simp))
      rw [HF2.out]; exact ⟨A, c, rfl, HB.out.below h', .of_below h'⟩
    have FIN := Lib.hid fin
    clear fin
    by_cases hz : x = 0
    · have e0 : (x == 0) = true := by rw [hz]; rfl
      clear h1 hz
      go_enter Try.func107, Try.ntmps107
      go_wp2_with (go_at_call 141; refine (literal_any B0 p m A c g [y, x] _ 2 _ (HB.out.below hb1) (by omega) (sl_new (Value.int .i64) 3 w B0 [y, x] (by simp)) hlits).mono ?_; rintro e w1 ⟨rfl, hb2⟩)
      go_ret
      exact FIN.out w1 hb2
    · have e0 : (x == 0) = false := by rw [beq_eq_false_iff_ne]; exact hz
      have e1 : (x == notL y) = true := by rw [beq_iff_eq]; exact h1.resolve_left hz
      clear h1 hz
      go_enter Try.func107, Try.ntmps107
      go_wp2_with (first
        | (go_at_call 141; refine (literal_any B0 p m A c g [y, x] _ 2 _ (HB.out.below hb1) (by omega) (sl_new (Value.int .i64) 3 w B0 [y, x] (by simp)) hlits).mono ?_; rintro e w1 ⟨rfl, hb2⟩)
        | (go_at_call 108; refine (not_any _ _ (by omega) (by omega)).mono ?_; rintro e w' ⟨rfl, rfl⟩))
      go_ret
      exact FIN.out w1 hb2
  · have e0 : (x == 0) = false := by rw [beq_eq_false_iff_ne]; exact fun h => h1 (.inl h)
    have e1 : (x == notL y) = false := by rw [beq_eq_false_iff_ne]; exact fun h => h1 (.inr h)
    by_cases h2 : x = 1
    · have HF2 : Hid (andF g y x = (g, y)) := by show _ = _; rw [HF.out, if_neg h1, if_pos (.inl h2)]
      have e2 : (x == 1) = true := by rw [h2]; rfl
      have fin : ∀ w1, Below (w.alloc (.cells #[.int .i64 y, .int .i64 x] 3)).heap.size (w.alloc (.cells #[.int .i64 y, .int .i64 x] 3)) w1 → GRet B0 p m w (andF g y x).1 (andF g y x).2 (.returned (.int .i64 y)) w1 := fun w1 h => by
        have h' : Below w.heap.size w w1 := hb1.trans (h.mono (by simp))
        rw [HF2.out]; exact ⟨A, c, rfl, HB.out.below h', .of_below h'⟩
      have FIN := Lib.hid fin
      clear fin h1 h2
      go_enter Try.func107, Try.ntmps107
      go_wp2_with (first
        | (go_at_call 141; refine (literal_any B0 p m A c g [y, x] _ 2 _ (HB.out.below hb1) (by omega) (sl_new (Value.int .i64) 3 w B0 [y, x] (by simp)) hlits).mono ?_; rintro e w1 ⟨rfl, hb2⟩)
        | (go_at_call 108; refine (not_any _ _ (by omega) (by omega)).mono ?_; rintro e w' ⟨rfl, rfl⟩))
      go_ret
      exact FIN.out w1 hb2
    · have e2 : (x == 1) = false := by rw [beq_eq_false_iff_ne]; exact h2
      have HF2 : Hid (andF g y x = match g.gates.findIdx? (· == (x, y)) with
        | some i => (g, 2 * ((1 + g.inputs + i : Nat) : Int))
        | none => ({ g with gates := g.gates ++ [(x, y)] }, 2 * (g.nodes : Int))) := by show _ = _; rw [HF.out, if_neg h1, if_neg (by omega)]
      clear HF h1 h2
      go_enter Try.func107, Try.ntmps107
      go_wp2_with (first
        | (go_at_call 141; refine (literal_any B0 p m A c g [y, x] _ 2 _ (HB.out.below hb1) (by omega) (sl_new (Value.int .i64) 3 w B0 [y, x] (by simp)) hlits).mono ?_; rintro e w1 ⟨rfl, hb2⟩)
        | (go_at_call 108; refine (not_any _ _ (by omega) (by omega)).mono ?_; rintro e w' ⟨rfl, rfl⟩))
      have hb3 := HB.out.below (hb1.trans (hb2.mono (by simp)))
      have hb4 := hb3.below ((Below.refl w1.heap.size w1).alloc (Nat.le_refl _) (.cells #[.int .i64 x, .int .i64 y] 123))
      have c0' := hb4.cell0
      have c1' := hb4.cell1
      have c2' := hb4.cell2
      have c3' := hb4.cell3
      have HB4 := Lib.hid hb4
      have HW1 : Hid (Below w.heap.size w w1) := hb1.trans (hb2.mono (by simp))
      have HB3 := Lib.hid hb3
      clear hb3 hb4 hb2 hb1
      have hmm : ∀ nq, ((w1.alloc (.cells #[.int .i64 x, .int .i64 y] 123)).drewN nq).heap[m]? = some (.map (gents g).toArray g.gates.length) := fun _ => HB4.out.map
      have hil : g.inputs + g.gates.length < 65536 := by unfold GS.nodes at hn; omega
      have hxs : 0 ≤ x ∧ x ≤ 1000000 := by omega
      have hys : 0 ≤ y ∧ y ≤ 1000000 := by omega
      rcases find_gate g x y hw hxs hys _ (hmm 0) with ⟨i, hi, _⟩ | ⟨hi, _⟩
      · have hrun : ∀ nq, (Instr.lookup 114 (.map (some m)) (.agg #[.int .i64 x, .int .i64 y]) true).run Try.prog ((w1.alloc (.cells #[.int .i64 x, .int .i64 y] 123)).drewN nq) = .ok (.tuple #[.int .i64 ((1 + g.inputs + i : Nat) : Int), .bool true]) ((w1.alloc (.cells #[.int .i64 x, .int .i64 y] 123)).drewN nq) := fun nq => by
          rcases find_gate g x y hw hxs hys _ (hmm nq) with ⟨j, hj, h⟩ | ⟨hj, _⟩
          · rw [hi] at hj; cases hj; exact h
          · rw [hi] at hj; cases hj
        have hlt : i < g.gates.length := by
          obtain ⟨h, _⟩ := List.findIdx?_eq_some_iff_getElem.1 hi; exact h
        have HF3 : Hid (andF g y x = (g, 2 * ((1 + g.inputs + i : Nat) : Int))) := by show _ = _; rw [HF2.out, hi]
        clear hmm hi
        go_quiet (fail)
        clear hrun
        go_wp2_with fail
        go_ret
        have hfin : Below w.heap.size w ((w1.alloc (.cells #[.int .i64 x, .int .i64 y] 123)).drewN nq) := below_drewN (HW1.out.alloc HW1.out.size _) nq
        rw [HF3.out]
        exact ⟨A, c, by simp, HB4.out.drewN nq, .of_below hfin⟩
      · have hrun : ∀ nq, (Instr.lookup 114 (.map (some m)) (.agg #[.int .i64 x, .int .i64 y]) true).run Try.prog ((w1.alloc (.cells #[.int .i64 x, .int .i64 y] 123)).drewN nq) = .ok (.tuple #[.int .i64 0, .bool false]) ((w1.alloc (.cells #[.int .i64 x, .int .i64 y] 123)).drewN nq) := fun nq => by
          rcases find_gate g x y hw hxs hys _ (hmm nq) with ⟨j, hj, _⟩ | ⟨_, h⟩
          · rw [hi] at hj; cases hj
          · exact h
        have HF3 : Hid (andF g y x = ({ g with gates := g.gates ++ [(x, y)] }, 2 * (g.nodes : Int))) := by show _ = _; rw [HF2.out, hi]
        have HI := Lib.hid hi
        clear hmm hi
        go_quiet (fail)
        clear hrun
        have hxs' := hxs
        have hys' := hys
        have HN : Hid (g.nodes < 65536) := hn
        have hgl : Hid (g.gates.length < 65536) := by show _ < _; omega
        have hxs' := hxs
        have hys' := hys
        have hgl : Hid (g.gates.length < 65536) := by show _ < _; omega
        have hxs' := hxs
        have hys' := hys
        have hgl : Hid (g.gates.length < 65536) := by show _ < _; omega
        have hxs' := hxs
        have hys' := hys
        have hgl : Hid (g.gates.length < 65536) := by show _ < _; omega
        have hxs' := hxs
        have hys' := hys
        have hgl : Hid (g.gates.length < 65536) := by show _ < _; omega
        have E1 : Hid ((1 : Int) + g.inputs + g.gates.length = g.nodes) := by show _ = _; unfold GS.nodes; omega
        have hge : decide ((65536 : Int) ≤ (g.nodes : Int)) = false := decide_eq_false (by omega)
        clear hn
        go_wp2_with (go_at_call 101; refine (nodes_any _ _ _ _ _ (by omega) (by omega) (by omega)).mono ?_; rintro e w2 ⟨rfl, hb5⟩; rw [E1.out]; clear hxs hys hil hx1 hy1 hyb)
        have hbd2 := (HB4.out.drewN nq).below hb5
        have hK2 : w2.heap[w1.heap.size]? = some (.cells #[.int .i64 x, .int .i64 y] 123 (0, 0)) := (hb5.block w1.heap.size (by simp)).trans (heap_alloc_new w1 _)
        have hpK : p < w1.heap.size := lt_of_some HB3.out.blk
        have hmK : m < w1.heap.size := lt_of_some HB3.out.map
        have hKA : (Value.slice A g.gates.length c).ownBlock ≠ some w1.heap.size := fun h => by
          have := (World.ownsRow.lt HB3.out.own _ h).2
          omega
        have hB2 : B0 ≤ w2.heap.size := by have := HB3.out.hp; have := lt_of_some hbd2.blk; omega
        have hown2 := hbd2.own
        have hKlt : w1.heap.size < w2.heap.size := lt_of_some hK2
        have k1 := hbd2.cell1
        have k2 := hbd2.cell2
        have kf := hbd2.frz 1
        have kK0 : w2.cell? ⟨w1.heap.size, 0, none⟩ = some (.int .i64 x) := by simp [World.cell?, hK2]
        have kK1 : w2.cell? ⟨w1.heap.size, 1, none⟩ = some (.int .i64 y) := by simp [World.cell?, hK2]
        obtain ⟨i0, hi0, hz0, hz1, hz2⟩ := info_parts Try.info123
        have hpm : p ≠ m := fun h => by have := hbd2.blk; rw [h, hbd2.map] at this; cases this
        have HBD := Lib.hid hbd2
        have HW2 : Hid (Below w.heap.size w w2) := (below_drewN (HW1.out.alloc HW1.out.size _) nq).trans (hb5.mono (by have := HW1.out.size; simp; omega))
        have HK2 := Lib.hid hK2
        clear hbd2 hK2 hb5 c0' c1' c2' c3'
        have hu := Try.underlying123
        have al : ∀ (q : Addr) (v : Value), w2.cell? q = some v → ((w2.alloc (.cells #[.int .i64 x, .int .i64 y] 123)).drew).cell? q = some v := fun q v h => (World.cell?_alloc_lt w2 _ q (World.block_lt_of_cell? w2 q h)).trans h
        have AL := Lib.hid al
        clear al
        refine wp_region_G [12, 13, 18, 19, 21] [(4, fun w' => w'.cell? ⟨p, 2, none⟩ = some (.map (some m))), (5, fun w' => w'.cell? ⟨w1.heap.size, 0, none⟩ = some (.int .i64 x) ∧ w'.cell? ⟨w1.heap.size, 1, none⟩ = some (.int .i64 y)), (10, fun w' => w'.cell? ⟨p, 1, none⟩ = some (.slice A g.gates.length c)), (11, fun w' => w'.cell? ⟨w1.heap.size, 0, none⟩ = some (.int .i64 x) ∧ w'.cell? ⟨w1.heap.size, 1, none⟩ = some (.int .i64 y))] (by kernel_rfl) ?_
        refine wpG_take (i := 0) (v := ?_) rfl (by kernel_rfl) rfl (by kernel_rfl) (by kernel_rfl) (fun _ _ _ h => h) (by rfl) ?_ (asks_none rfl _) ?_
        rotate_left
        · intro w _; go_simp; rfl
        simp only [Act.put, List.setIfInBounds_toArray, List.set_cons_zero, List.set_cons_succ]
        refine wpG_take (i := 1) (v := ?_) rfl (by kernel_rfl) rfl (by kernel_rfl) (by kernel_rfl) (fun _ _ _ h => h) (by rfl) ?_ (asks_none rfl _) ?_
        rotate_left
        · intro w _; go_simp; rfl
        simp only [Act.put, List.setIfInBounds_toArray, List.set_cons_zero, List.set_cons_succ]
        refine wpG_take (i := 2) (v := ?_) rfl (by kernel_rfl) rfl (by kernel_rfl) (by kernel_rfl) (fun _ _ _ h => h) (by rfl) ?_ (asks_none rfl _) ?_
        rotate_left
        · intro w _; go_simp; rfl
        simp only [Act.put, List.setIfInBounds_toArray, List.set_cons_zero, List.set_cons_succ]
        refine wpG_take (i := 3) (v := ?_) rfl (by kernel_rfl) rfl (by kernel_rfl) (by kernel_rfl) (fun _ _ _ h => h) (by rfl) ?_ (asks_none rfl _) ?_
        rotate_left
        · intro w _; go_simp; rfl
        simp only [Act.put, List.setIfInBounds_toArray, List.set_cons_zero, List.set_cons_succ]
        refine wpG_take (i := 4) (v := ?_) rfl (by kernel_rfl) rfl (by kernel_rfl) (by kernel_rfl) (fun _ _ _ h => h) (by rfl) ?_ (by simp [asksOf]; exact k2) ?_
        rotate_left
        · intro w hw; simp [asksOf] at hw; go_simp; rfl
        simp only [Act.put, List.setIfInBounds_toArray, List.set_cons_zero, List.set_cons_succ]
        refine wpG_take (i := 5) (v := ?_) rfl (by kernel_rfl) rfl (by kernel_rfl) (by kernel_rfl) (fun _ _ _ h => h) (by rfl) ?_ (by simp [asksOf]; exact ⟨kK0, kK1⟩) ?_
        rotate_left
        · intro w hw; simp [asksOf] at hw; obtain ⟨hw0, hw1⟩ := hw; go_simp; rfl
        simp only [Act.put, List.setIfInBounds_toArray, List.set_cons_zero, List.set_cons_succ]
        refine wpG_take (i := 6) (v := ?_) rfl (by kernel_rfl) rfl (by kernel_rfl) (by kernel_rfl) (fun _ _ _ h => h) (by rfl) ?_ (asks_none rfl _) ?_
        rotate_left
        · intro w _; go_simp; rfl
        simp only [Act.put, List.setIfInBounds_toArray, List.set_cons_zero, List.set_cons_succ]
        refine wpG_take (i := 7) (v := ?_) rfl (by kernel_rfl) rfl (by kernel_rfl) (by kernel_rfl) (fun _ _ _ h => h) (by rfl) ?_ (asks_none rfl _) ?_
        rotate_left
        · intro w _; go_simp; rfl
        simp only [Act.put, List.setIfInBounds_toArray, List.set_cons_zero, List.set_cons_succ]
        refine wpG_take (i := 8) (v := ?_) rfl (by kernel_rfl) rfl (by kernel_rfl) (by kernel_rfl) (fun _ _ _ h => h) (by rfl) ?_ (asks_none rfl _) ?_
        rotate_left
        · intro w _; go_simp; rfl
        simp only [Act.put, List.setIfInBounds_toArray, List.set_cons_zero, List.set_cons_succ]
        refine wpG_take (i := 9) (v := ?_) rfl (by kernel_rfl) rfl (by kernel_rfl) (by kernel_rfl) (fun _ _ _ h => h) (by rfl) ?_ (asks_none rfl _) ?_
        rotate_left
        · intro w _; go_simp; rfl
        simp only [Act.put, List.setIfInBounds_toArray, List.set_cons_zero, List.set_cons_succ]
        refine wpG_take (i := 10) (v := ?_) rfl (by kernel_rfl) rfl (by kernel_rfl) (by kernel_rfl) (fun _ _ _ h => h) (by rfl) ?_ (by simp [asksOf]; exact k1) ?_
        rotate_left
        · intro w hw; simp [asksOf] at hw; go_simp; rfl
        simp only [Act.put, List.setIfInBounds_toArray, List.set_cons_zero, List.set_cons_succ]
        refine wpG_take (i := 11) (v := ?_) rfl (by kernel_rfl) rfl (by kernel_rfl) (by kernel_rfl) (fun _ _ _ h => h) (by rfl) ?_ (by simp [asksOf]; exact ⟨kK0, kK1⟩) ?_
        rotate_left
        · intro w hw; simp [asksOf] at hw; obtain ⟨hw0, hw1⟩ := hw; go_simp; rfl
        simp only [Act.put, List.setIfInBounds_toArray, List.set_cons_zero, List.set_cons_succ]
        refine wpG_take (i := 14) (v := ?_) rfl (by kernel_rfl) rfl (by kernel_rfl) (by kernel_rfl) (fun _ _ _ h => h) (by rfl) ?_ (asks_none rfl _) ?_
        rotate_left
        · intro w _; go_simp; rfl
        simp only [Act.put, List.setIfInBounds_toArray, List.set_cons_zero, List.set_cons_succ]
        refine wpG_loud (i := 12) rfl rfl rfl (by kernel_rfl) (fun K hK => ?_)
        go_simp
        refine hK _ _ ?_ ?_
        · intro q hq hwt; simp only [List.mem_cons, List.not_mem_nil, or_false] at hq; rcases hq with rfl | rfl | rfl | rfl
          · exact AL.out _ _ k2
          · exact ⟨AL.out _ _ kK0, AL.out _ _ kK1⟩
          · exact AL.out _ _ k1
          · exact Bool.noConfusion (hwt.symm.trans (show _ = true from by kernel_rfl))
        clear hK K
        refine wpG_loud (i := 13) rfl rfl rfl (by kernel_rfl) (fun K hK => ?_)
        refine wp_append_lies _ _ _ _ rfl B0 123 i0 _ 2 16 Try.underlying57 hi0 hz0 hz1 hz2 rfl (by omega) _ _ _ rfl ((hown2.alloc _).drew) ⟨w2.heap.size, 0, none⟩ 1 1 [.int .i64 x, .int .i64 y] rfl rfl (World.news_of_block (cs := #[.int .i64 x, .int .i64 y]) (t := 123) (fr := (0, 0)) (heap_alloc_new w2 _)) (by simp [Value.oneCell']) (by omega) ?b1 ?b2 ?b3 (w2.heap.size + 1) (by simp) ?_
        case b1 => unfold maxLen; have := hgl.out; omega
        case b2 => have := hgl.out; omega
        case b3 => simp; omega
        intro G cap w3 hown3 hgrow hat hlt
        obtain ⟨⟨hp3, hK3⟩, hme, hes, hfin⟩ := and_push (K := w1.heap.size) ((HBD.out.below ((Below.refl _ _).alloc (Nat.le_refl _) (.cells #[.int .i64 x, .int .i64 y] 123))).drewN 1) hw hxs' hys' HI.out hgrow hown3 ((Below.heap_alloc w2 _ _ hKlt).trans HK2.out) hKA (by omega) (by omega)
        have HFIN := Lib.hid hfin
        have q1 : w3.cell? ⟨p, 1, none⟩ = some (.slice A g.gates.length c) := by simp [World.cell?, hp3]
        have q2 : w3.cell? ⟨p, 2, none⟩ = some (.map (some m)) := by simp [World.cell?, hp3]
        have q3 : w3.cell? ⟨w1.heap.size, 0, none⟩ = some (.int .i64 x) := by simp [World.cell?, hK3]
        have q4 : w3.cell? ⟨w1.heap.size, 1, none⟩ = some (.int .i64 y) := by simp [World.cell?, hK3]
        have qf : w3.frozen? ⟨p, 1, none⟩ = false := by simp [World.frozen?, hp3]
        clear hfin hp3 hK3 hat
        refine hK _ _ ?_ ?_
        · intro q hq hwt; simp only [List.mem_cons, List.not_mem_nil, or_false] at hq; rcases hq with rfl | rfl | rfl | rfl
          · exact q2
          · exact ⟨q3, q4⟩
          · exact Bool.noConfusion (hwt.symm.trans (show _ = true from by kernel_rfl))
          · exact ⟨q3, q4⟩
        clear hK K
        simp only [Act.put, List.setIfInBounds_toArray, List.set_cons_zero, List.set_cons_succ]
        refine wpG_take (i := 15) (v := ?_) rfl (by kernel_rfl) rfl (by kernel_rfl) (by kernel_rfl) (fun _ _ _ h => h) (by rfl) ?_ (asks_none rfl _) ?_
        rotate_left
        · intro w _; go_simp; rfl
        simp only [Act.put, List.setIfInBounds_toArray, List.set_cons_zero, List.set_cons_succ]
        refine wpG_take (i := 16) (v := ?_) rfl (by kernel_rfl) rfl (by kernel_rfl) (by kernel_rfl) (fun _ _ _ h => h) (by rfl) ?_ (asks_none rfl _) ?_
        rotate_left
        · intro w _; go_simp; rfl
        simp only [Act.put, List.setIfInBounds_toArray, List.set_cons_zero, List.set_cons_succ]
        refine wpG_take (i := 17) (v := ?_) rfl (by kernel_rfl) rfl (by kernel_rfl) (by kernel_rfl) (fun _ _ _ h => h) (by rfl) ?_ (asks_none rfl _) ?_
        rotate_left
        · intro w _; go_simp; rfl
        simp only [Act.put, List.setIfInBounds_toArray, List.set_cons_zero, List.set_cons_succ]
        refine wpG_loud (i := 18) rfl rfl rfl (by kernel_rfl) (fun K hK => ?_)
        go_simp
        refine hK _ _ ?_ ?_
        · intro q hq hwt; simp only [List.mem_cons, List.not_mem_nil, or_false] at hq; rcases hq with rfl | rfl | rfl | rfl
          · exact Bool.noConfusion (hwt.symm.trans (show _ = true from by kernel_rfl))
          · exact ⟨(World.cell?_setCell_other w3 _ _ _ (by simp)).trans q3, (World.cell?_setCell_other w3 _ _ _ (by simp)).trans q4⟩
          · exact Bool.noConfusion (hwt.symm.trans (show _ = true from by kernel_rfl))
          · exact Bool.noConfusion (hwt.symm.trans (show _ = true from by kernel_rfl))
        clear hK K
        refine wpG_loud (i := 19) rfl rfl rfl (by kernel_rfl) (fun K hK => ?_)
        go_simp
        refine hK _ _ ?_ ?_
        · intro q hq hwt; simp only [List.mem_cons, List.not_mem_nil, or_false] at hq; rcases hq with rfl | rfl | rfl | rfl
          · exact Bool.noConfusion (hwt.symm.trans (show _ = true from by kernel_rfl))
          · exact Bool.noConfusion (hwt.symm.trans (show _ = true from by kernel_rfl))
          · exact Bool.noConfusion (hwt.symm.trans (show _ = true from by kernel_rfl))
          · exact Bool.noConfusion (hwt.symm.trans (show _ = true from by kernel_rfl))
        clear hK K
        refine wpG_take (i := 20) (v := ?_) rfl (by kernel_rfl) rfl (by kernel_rfl) (by kernel_rfl) (fun _ _ _ h => h) (by rfl) ?_ (asks_none rfl _) ?_
        rotate_left
        · intro w _; go_simp; rfl
        simp only [Act.put, List.setIfInBounds_toArray, List.set_cons_zero, List.set_cons_succ]
        refine wpG_loud (i := 21) rfl rfl rfl (by kernel_rfl) (fun K hK => ?_)
        go_simp
        refine hK _ _ ?_ ?_
        · intro q hq hwt; simp only [List.mem_cons, List.not_mem_nil, or_false] at hq; rcases hq with rfl | rfl | rfl | rfl
          · exact Bool.noConfusion (hwt.symm.trans (show _ = true from by kernel_rfl))
          · exact Bool.noConfusion (hwt.symm.trans (show _ = true from by kernel_rfl))
          · exact Bool.noConfusion (hwt.symm.trans (show _ = true from by kernel_rfl))
          · exact Bool.noConfusion (hwt.symm.trans (show _ = true from by kernel_rfl))
        clear hK K
        refine wpG_done (by kernel_rfl) ?_
        go_wp2
        go_ret
        have hf0 : Fr B0 [116, 123] [m] w ((w2.alloc (.cells #[.int .i64 x, .int .i64 y] 123)).drewN 1) := .of_below (below_drewN (HW2.out.alloc HW2.out.size _) 1)
        rw [HF3.out]
        exact ⟨_, _, by simp; have := HN.out; unfold wrap64; omega, HFIN.out.1, hf0.trans HFIN.out.2⟩

set_option maxHeartbeats 1000000 in
theorem and_eq (B0 p m : Nat) (A : Option Addr) (c : Nat) (g : GS) (x : Int) (w : World) (hb : Bd B0 w p m A c g) (hn : g.nodes < 65536) (hx : isLit g x) :
    Calls Try.prog 107 #[.pointer (some ⟨p, 0, none⟩), .int .i64 x, .int .i64 x] w (GRet B0 p m w (andF g x x).1 (andF g x x).2) := by
  have c3 := hb.cell3
  have HB := Lib.hid hb
  clear hb
  have hlits : ∀ z ∈ [x, x], isLit g z := by intro z hz; simp at hz; rcases hz with rfl | rfl <;> assumption
  have hb1 : Below w.heap.size w (w.alloc (.cells #[.int .i64 x, .int .i64 x] 3)) := (Below.refl _ _).alloc (Nat.le_refl _) _
  have hx0 := hx.1
  have hx1 := hx.2
  have hmin : min x x = x := by omega
  have hmax : max x x = x := by omega
  have hnx := notL_cases x
  have HF : Hid (andF g x x = (g, x)) := by
    show _ = _; unfold andF; rw [hmin, hmax]
    by_cases h : x = 0
    · rw [if_pos (.inl h), h]
    · rw [if_neg (by omega), if_pos (.inr rfl)]
  have fin : ∀ w1, Below (w.alloc (.cells #[.int .i64 x, .int .i64 x] 3)).heap.size (w.alloc (.cells #[.int .i64 x, .int .i64 x] 3)) w1 → GRet B0 p m w (andF g x x).1 (andF g x x).2 (.returned (.int .i64 x)) w1 := fun w1 h => by
    have h' : Below w.heap.size w w1 := hb1.trans (h.mono (by simp))
    rw [HF.out]; exact ⟨A, c, rfl, HB.out.below h', .of_below h'⟩
  have FIN := Lib.hid fin
  clear fin hmin hmax
  have e1 : (x == notL x) = false := by rw [beq_eq_false_iff_ne]; omega
  clear hnx
  by_cases hz : x = 0
  · subst hz
    go_enter Try.func107, Try.ntmps107
    go_wp2_with (go_at_call 141; refine (literal_any B0 p m A c g [0, 0] _ 2 _ (HB.out.below hb1) (by omega) (sl_new (Value.int .i64) 3 w B0 [0, 0] (by simp)) hlits).mono ?_; rintro e w1 ⟨rfl, hb2⟩)
    all_goals (go_ret; exact FIN.out w1 hb2)
  · have e0 : (x == 0) = false := by rw [beq_eq_false_iff_ne]; exact hz
    by_cases h1 : x = 1
    · have e2 : (x == 1) = true := by rw [h1]; rfl
      clear h1 hz
      go_enter Try.func107, Try.ntmps107
      go_wp2_with (first
        | (go_at_call 141; refine (literal_any B0 p m A c g [x, x] _ 2 _ (HB.out.below hb1) (by omega) (sl_new (Value.int .i64) 3 w B0 [x, x] (by simp)) hlits).mono ?_; rintro e w1 ⟨rfl, hb2⟩)
        | (go_at_call 108; refine (not_any _ _ (by omega) (by omega)).mono ?_; rintro e w' ⟨rfl, rfl⟩))
      all_goals (go_ret; exact FIN.out w1 hb2)
    · have e2 : (x == 1) = false := by rw [beq_eq_false_iff_ne]; exact h1
      clear h1 hz
      go_enter Try.func107, Try.ntmps107
      go_wp2_with (first
        | (go_at_call 141; refine (literal_any B0 p m A c g [x, x] _ 2 _ (HB.out.below hb1) (by omega) (sl_new (Value.int .i64) 3 w B0 [x, x] (by simp)) hlits).mono ?_; rintro e w1 ⟨rfl, hb2⟩)
        | (go_at_call 108; refine (not_any _ _ (by omega) (by omega)).mono ?_; rintro e w' ⟨rfl, rfl⟩))
      all_goals (go_ret; exact FIN.out w1 hb2)

theorem and_any (B0 p m : Nat) (A : Option Addr) (c : Nat) (g : GS) (x y : Int) (w : World) (hB : B0 ≤ w.heap.size) (hb : Bd B0 w p m A c g) (hn : g.nodes < 65536) (hw : GWf g) (hx : isLit g x) (hy : isLit g y) :
    Calls Try.prog 107 #[.pointer (some ⟨p, 0, none⟩), .int .i64 x, .int .i64 y] w (GRet B0 p m w (andF g x y).1 (andF g x y).2) := by
  rcases Int.lt_trichotomy x y with h | rfl | h
  · exact and_lt B0 p m A c g x y w hB hb hn hw hx hy h
  · exact and_eq B0 p m A c g x w hb hn hx
  · exact and_gt B0 p m A c g y x w hB hb hn hw hy hx h
end Go.Proofs.Ytgmcajojigedaaa
namespace Go.Proofs.Ytgmcajojigedaaa
open Go.RowKit

theorem notL_bd {g : GS} {x : Int} (h : isLit g x) : 0 ≤ notL x ∧ notL x ≤ x + 1 := by
  have := h.1; unfold notL; split <;> omega
/-- g' grew out of g: the same inputs, at most k gates more, and it is still well formed. -/
structure Grew (k : Nat) (g g' : GS) : Prop where
  inputs : g'.inputs = g.inputs
  le : g.gates.length ≤ g'.gates.length
  room : g'.gates.length ≤ g.gates.length + k
  wf : GWf g → GWf g'
theorem Grew.lit {k : Nat} {g g' : GS} (h : Grew k g g') {x : Int} (hx : isLit g x) : isLit g' x := by
  have := h.inputs; have := h.le; unfold isLit GS.nodes at *; omega
theorem Grew.trans {a b : Nat} {g g' g'' : GS} (h : Grew a g g') (k : Grew b g' g'') : Grew (a + b) g g'' :=
  ⟨k.inputs.trans h.inputs, Nat.le_trans h.le k.le, by have := h.room; have := k.room; omega, fun hw => k.wf (h.wf hw)⟩
theorem Grew.mono {a b : Nat} {g g' : GS} (h : Grew a g g') (hab : a ≤ b) : Grew b g g' := ⟨h.inputs, h.le, by have := h.room; omega, h.wf⟩
theorem Grew.refl (k : Nat) (g : GS) : Grew k g g := ⟨rfl, Nat.le_refl _, by omega, id⟩
theorem Grew.nodes {k : Nat} {g g' : GS} (h : Grew k g g') : g.nodes ≤ g'.nodes ∧ g'.nodes ≤ g.nodes + k := by
  have := h.inputs; have := h.le; have := h.room; unfold GS.nodes; omega

theorem notL_notL (x : Int) : notL (notL x) = x := by unfold notL; split <;> split <;> omega
theorem andF_spec {g : GS} {x y : Int} (hx : isLit g x) (hy : isLit g y) (hn : g.nodes < 65536) : Grew 1 g (andF g x y).1 ∧ isLit (andF g x y).1 (andF g x y).2 := by
  have hb : 0 ≤ min x y ∧ min x y ≤ max x y ∧ max x y < 2 * (g.nodes : Int) := by have := hx.1; have := hx.2; have := hy.1; have := hy.2; omega
  have hnn : (0 : Int) < g.nodes := by unfold GS.nodes; omega
  unfold andF
  split
  · exact ⟨.refl _ _, by unfold isLit; dsimp only; omega⟩
  split
  · exact ⟨.refl _ _, by unfold isLit; dsimp only; omega⟩
  split
  · rename_i i hi
    obtain ⟨hlt, _⟩ := List.findIdx?_eq_some_iff_getElem.1 hi
    exact ⟨.refl _ _, by unfold isLit GS.nodes; dsimp only; omega⟩
  · rename_i h0 h1 _ hnone
    have hnm := notL_notL (max x y)
    refine ⟨⟨rfl, by simp, by simp, fun hw => ⟨hw.ins, ?_, fun i p hi => ?_, ?_⟩⟩, ?_⟩
    · unfold GS.nodes at *; simp only [List.length_append, List.length_singleton]; omega
    · by_cases hlt : i < g.gates.length
      · rw [List.getElem?_append_left hlt] at hi
        exact hw.gate i p hi
      · rw [List.getElem?_append_right (by omega)] at hi
        have hi0 : i - g.gates.length = 0 := by
          have := (List.getElem?_eq_some_iff.1 hi).1; simp at this; omega
        rw [hi0] at hi
        simp at hi
        subst hi
        refine ⟨by dsimp only; omega, by dsimp only; omega, ?_, ?_⟩
        · dsimp only
          unfold GS.nodes at hb
          omega
        · dsimp only
          intro h
          exact h0 (.inr (by rw [h, notL_notL]))
    · rw [List.nodup_append]
      refine ⟨hw.nodup, by simp, fun a ha b hb2 => ?_⟩
      simp only [List.mem_singleton] at hb2
      subst hb2
      have := List.findIdx?_eq_none_iff.1 hnone a ha
      simpa using this
    · unfold isLit GS.nodes; simp only [List.length_append, List.length_singleton]; omega

def orF (g : GS) (x y : Int) : GS × Int := ((andF g (notL x) (notL y)).1, notL (andF g (notL x) (notL y)).2)
def xorF (g : GS) (x y : Int) : GS × Int :=
  let a := andF g x (notL y)
  let b := andF a.1 (notL x) y
  orF b.1 a.2 b.2
def muxF (g : GS) (c x y : Int) : GS × Int :=
  let a := andF g c x
  let b := andF a.1 (notL c) y
  orF b.1 a.2 b.2
theorem orF_spec {g : GS} {x y : Int} (hx : isLit g x) (hy : isLit g y) (hn : g.nodes < 65536) : Grew 1 g (orF g x y).1 ∧ isLit (orF g x y).1 (orF g x y).2 := by
  have h := andF_spec hx.notL hy.notL hn
  exact ⟨h.1, h.2.notL⟩
theorem xorF_spec {g : GS} {x y : Int} (hx : isLit g x) (hy : isLit g y) (hn : g.nodes + 2 < 65536) : Grew 3 g (xorF g x y).1 ∧ isLit (xorF g x y).1 (xorF g x y).2 := by
  have h1 := andF_spec hx hy.notL (by omega)
  have h2 := andF_spec (h1.1.lit hx.notL) (h1.1.lit hy) (by have := h1.1.nodes; omega)
  have h3 := orF_spec (h2.1.lit h1.2) h2.2 (by have := h1.1.nodes; have := h2.1.nodes; omega)
  exact ⟨(h1.1.trans h2.1).trans h3.1, h3.2⟩
theorem muxF_spec {g : GS} {c x y : Int} (hc : isLit g c) (hx : isLit g x) (hy : isLit g y) (hn : g.nodes + 2 < 65536) : Grew 3 g (muxF g c x y).1 ∧ isLit (muxF g c x y).1 (muxF g c x y).2 := by
  have h1 := andF_spec hc hx (by omega)
  have h2 := andF_spec (h1.1.lit hc.notL) (h1.1.lit hy) (by have := h1.1.nodes; omega)
  have h3 := orF_spec (h2.1.lit h1.2) h2.2 (by have := h1.1.nodes; have := h2.1.nodes; omega)
  exact ⟨(h1.1.trans h2.1).trans h3.1, h3.2⟩

set_option maxHeartbeats 1000000 in
theorem or_any (B0 p m : Nat) (A : Option Addr) (c : Nat) (g : GS) (x y : Int) (w : World) (hB : B0 ≤ w.heap.size) (hb : Bd B0 w p m A c g) (hn : g.nodes < 65536) (hw : GWf g) (hx : isLit g x) (hy : isLit g y) :
    Calls Try.prog 138 #[.pointer (some ⟨p, 0, none⟩), .int .i64 x, .int .i64 y] w (GRet B0 p m w (orF g x y).1 (orF g x y).2) := by
  have HB := Lib.hid hb
  clear hb
  have hlits : ∀ z ∈ [x, y], isLit g z := by intro z hz; simp at hz; rcases hz with rfl | rfl <;> assumption
  have hb1 : Below w.heap.size w (w.alloc (.cells #[.int .i64 x, .int .i64 y] 3)) := (Below.refl _ _).alloc (Nat.le_refl _) _
  have HS := Lib.hid (andF_spec hx.notL hy.notL hn)
  have hx0 := hx.1
  have hx1 := hx.2
  have hy0 := hy.1
  have hy1 := hy.2
  have H1 : Hid (0 ≤ (andF g (notL x) (notL y)).2 ∧ (andF g (notL x) (notL y)).2 < 9223372036854775807) := by
    show _ ∧ _
    have h1 := HS.out.2.1; have h2 := HS.out.2.2; have h3 := HS.out.1.nodes; omega
  go_enter Try.func138, Try.ntmps138
  go_wp2_with (first
    | (go_at_call 139; refine (valid2_any B0 p m A c g [x, y] _ 2 _ (HB.out.below hb1) (by omega) (sl_new (Value.int .i64) 3 w B0 [x, y] (by simp)) hlits).mono ?_; rintro e w1 ⟨rfl, hb2⟩; have HW1 : Hid (Below w.heap.size w w1) := hb1.trans (hb2.mono (by simp)))
    | (go_at_call 107; refine (and_any B0 p m A c g _ _ _ (by have := HW1.out.size; omega) (HB.out.below HW1.out) hn hw hx.notL hy.notL).mono ?_; rintro e w2 ⟨A2, c2, rfl, hbd2, hf2⟩; have HB2 := Lib.hid hbd2; have HF2 := Lib.hid hf2; clear hbd2 hf2)
    | (go_at_call 108; refine (not_any _ _ (by first | omega | exact H1.out.1) (by first | omega | exact H1.out.2)).mono ?_; rintro e w' ⟨rfl, rfl⟩)
    | (go_at_call 140; refine (settle_any B0 p m A2 c2 _ _ _ HB2.out).mono ?_; rintro e w' ⟨rfl, rfl⟩))
  go_ret
  exact ⟨A2, c2, rfl, HB2.out, (Fr.of_below HW1.out).trans HF2.out⟩

set_option maxHeartbeats 1000000 in
theorem xor_any (B0 p m : Nat) (A : Option Addr) (c : Nat) (g : GS) (x y : Int) (w : World) (hB : B0 ≤ w.heap.size) (hb : Bd B0 w p m A c g) (hn : g.nodes + 2 < 65536) (hw : GWf g) (hx : isLit g x) (hy : isLit g y) :
    Calls Try.prog 106 #[.pointer (some ⟨p, 0, none⟩), .int .i64 x, .int .i64 y] w (GRet B0 p m w (xorF g x y).1 (xorF g x y).2) := by
  have HB := Lib.hid hb
  clear hb
  have hlits : ∀ z ∈ [x, y], isLit g z := by intro z hz; simp at hz; rcases hz with rfl | rfl <;> assumption
  have hb1 : Below w.heap.size w (w.alloc (.cells #[.int .i64 x, .int .i64 y] 3)) := (Below.refl _ _).alloc (Nat.le_refl _) _
  have S1 := Lib.hid (andF_spec hx hy.notL (show g.nodes < 65536 by omega))
  have N1 : Hid ((andF g x (notL y)).1.nodes + 1 < 65536) := by show _ < _; have := S1.out.1.nodes; omega
  have S2 := Lib.hid (andF_spec (S1.out.1.lit hx.notL) (S1.out.1.lit hy) (show (andF g x (notL y)).1.nodes < 65536 by have := N1.out; omega))
  have N2 : Hid ((andF (andF g x (notL y)).1 (notL x) y).1.nodes < 65536) := by show _ < _; have := S2.out.1.nodes; have := N1.out; omega
  have HW := Lib.hid hw
  clear hw
  have hx0 := hx.1
  have hx1 := hx.2
  have hy0 := hy.1
  have hy1 := hy.2
  go_enter Try.func106, Try.ntmps106
  go_wp2_with (first
    | (go_at_call 139; refine (valid2_any B0 p m A c g [x, y] _ 2 _ (HB.out.below hb1) (by omega) (sl_new (Value.int .i64) 3 w B0 [x, y] (by simp)) hlits).mono ?_; rintro e w1 ⟨rfl, hb2⟩; have HW1 : Hid (Below w.heap.size w w1) := hb1.trans (hb2.mono (by simp)); clear hb2)
    | (go_at_call 108; refine (not_any _ _ (by omega) (by omega)).mono ?_; rintro e w' ⟨rfl, rfl⟩)
    | (go_at_call 107; have _t := HW1; refine (and_any B0 p m A c g _ _ _ (by have := HW1.out.size; omega) (HB.out.below HW1.out) (by omega) HW.out hx hy.notL).mono ?_; rintro e w2 ⟨A2, c2, rfl, hbd2, hf2⟩; have HB2 := Lib.hid hbd2; have HF2 : Hid (Fr B0 [116, 123] [m] w w2) := (Fr.of_below HW1.out).trans hf2; clear hbd2 hf2 HW1)
    | (go_at_call 107; have _t := HF2; refine (and_any B0 p m A2 c2 _ _ _ _ (by have := HF2.out.size; omega) HB2.out (by have := N1.out; omega) (S1.out.1.wf HW.out) (S1.out.1.lit hx.notL) (S1.out.1.lit hy)).mono ?_; rintro e w3 ⟨A3, c3, rfl, hbd3, hf3⟩; have HB3 := Lib.hid hbd3; have HF3 : Hid (Fr B0 [116, 123] [m] w w3) := HF2.out.trans hf3; clear hbd3 hf3 HF2 HB2)
    | (go_at_call 138; have _t := HF3; refine (or_any B0 p m A3 c3 _ _ _ _ (by have := HF3.out.size; omega) HB3.out N2.out (S2.out.1.wf (S1.out.1.wf HW.out)) (S2.out.1.lit S1.out.2) S2.out.2).mono ?_; rintro e w4 ⟨A4, c4, rfl, hbd4, hf4⟩; have HB4 := Lib.hid hbd4; have HF4 : Hid (Fr B0 [116, 123] [m] w w4) := HF3.out.trans hf4; clear hbd4 hf4 HF3 HB3)
    | (go_at_call 140; refine (settle_any B0 p m A4 c4 _ _ _ HB4.out).mono ?_; rintro e w' ⟨rfl, rfl⟩))
  go_ret
  exact ⟨A4, c4, rfl, HB4.out, HF4.out⟩

set_option maxHeartbeats 1000000 in
theorem mux_any (B0 p m : Nat) (A : Option Addr) (c : Nat) (g : GS) (k x y : Int) (w : World) (hB : B0 ≤ w.heap.size) (hb : Bd B0 w p m A c g) (hn : g.nodes + 2 < 65536) (hw : GWf g) (hk : isLit g k) (hx : isLit g x) (hy : isLit g y) :
    Calls Try.prog 109 #[.pointer (some ⟨p, 0, none⟩), .int .i64 k, .int .i64 x, .int .i64 y] w (GRet B0 p m w (muxF g k x y).1 (muxF g k x y).2) := by
  have HB := Lib.hid hb
  clear hb
  have hlits : ∀ z ∈ [k, x, y], isLit g z := by intro z hz; simp at hz; rcases hz with rfl | rfl | rfl <;> assumption
  have hb1 : Below w.heap.size w (w.alloc (.cells #[.int .i64 k, .int .i64 x, .int .i64 y] 3)) := (Below.refl _ _).alloc (Nat.le_refl _) _
  have S1 := Lib.hid (andF_spec hk hx (show g.nodes < 65536 by omega))
  have N1 : Hid ((andF g k x).1.nodes + 1 < 65536) := by show _ < _; have := S1.out.1.nodes; omega
  have S2 := Lib.hid (andF_spec (S1.out.1.lit hk.notL) (S1.out.1.lit hy) (show (andF g k x).1.nodes < 65536 by have := N1.out; omega))
  have N2 : Hid ((andF (andF g k x).1 (notL k) y).1.nodes < 65536) := by show _ < _; have := S2.out.1.nodes; have := N1.out; omega
  have HW := Lib.hid hw
  clear hw
  have hk0 := hk.1
  have hk1 := hk.2
  have hx0 := hx.1
  have hx1 := hx.2
  have hy0 := hy.1
  have hy1 := hy.2
  go_enter Try.func109, Try.ntmps109
  go_wp2_with (first
    | (go_at_call 139; refine (valid2_any B0 p m A c g [k, x, y] _ 3 _ (HB.out.below hb1) (by omega) (sl_new (Value.int .i64) 3 w B0 [k, x, y] (by simp)) hlits).mono ?_; rintro e w1 ⟨rfl, hb2⟩; have HW1 : Hid (Below w.heap.size w w1) := hb1.trans (hb2.mono (by simp)); clear hb2)
    | (go_at_call 108; refine (not_any _ _ (by omega) (by omega)).mono ?_; rintro e w' ⟨rfl, rfl⟩)
    | (go_at_call 107; have _t := HW1; refine (and_any B0 p m A c g _ _ _ (by have := HW1.out.size; omega) (HB.out.below HW1.out) (by omega) HW.out hk hx).mono ?_; rintro e w2 ⟨A2, c2, rfl, hbd2, hf2⟩; have HB2 := Lib.hid hbd2; have HF2 : Hid (Fr B0 [116, 123] [m] w w2) := (Fr.of_below HW1.out).trans hf2; clear hbd2 hf2 HW1)
    | (go_at_call 107; have _t := HF2; refine (and_any B0 p m A2 c2 _ _ _ _ (by have := HF2.out.size; omega) HB2.out (by have := N1.out; omega) (S1.out.1.wf HW.out) (S1.out.1.lit hk.notL) (S1.out.1.lit hy)).mono ?_; rintro e w3 ⟨A3, c3, rfl, hbd3, hf3⟩; have HB3 := Lib.hid hbd3; have HF3 : Hid (Fr B0 [116, 123] [m] w w3) := HF2.out.trans hf3; clear hbd3 hf3 HF2 HB2)
    | (go_at_call 138; have _t := HF3; refine (or_any B0 p m A3 c3 _ _ _ _ (by have := HF3.out.size; omega) HB3.out N2.out (S2.out.1.wf (S1.out.1.wf HW.out)) (S2.out.1.lit S1.out.2) S2.out.2).mono ?_; rintro e w4 ⟨A4, c4, rfl, hbd4, hf4⟩; have HB4 := Lib.hid hbd4; have HF4 : Hid (Fr B0 [116, 123] [m] w w4) := HF3.out.trans hf4; clear hbd4 hf4 HF3 HB3)
    | (go_at_call 140; refine (settle_any B0 p m A4 c4 _ _ _ HB4.out).mono ?_; rintro e w' ⟨rfl, rfl⟩))
  go_ret
  exact ⟨A4, c4, rfl, HB4.out, HF4.out⟩
end Go.Proofs.Ytgmcajojigedaaa
namespace Go.Proofs.Ytgmcajojigedaaa
open Go.RowKit

theorem gcells_one (l : List (Int × Int)) : ∀ u ∈ gcells l, u.oneCell' = true := by
  intro u hu
  simp only [gcells, List.mem_flatMap] at hu
  obtain ⟨q, _, hq⟩ := hu
  simp at hq
  rcases hq with rfl | rfl <;> rfl
theorem own_shape {w : World} {base e size n : Nat} {v : Value} {xs : List Value} (h : w.ownsRow base e size v n xs) : ∃ A c, v = .slice A n c := by
  rcases h.2 with ⟨rfl, rfl⟩ | ⟨g, cap, cur, rfl, _⟩
  · exact ⟨_, _, rfl⟩
  · exact ⟨_, _, rfl⟩

theorem own_far {w : World} {base e size n : Nat} {v : Value} {xs : List Value} (h : w.ownsRow base e size v n xs) {p : Addr} {cs : Array Value} {t : Nat} {f : Nat × Nat} (hp : w.heap[p.block]? = some (.cells cs t f)) (hne : t ≠ e) (u : Value) :
    (w.setCell p u).ownsRow base e size v n xs := by
  refine ⟨h.1, h.2.imp id (fun ⟨g, cap, cur, e1, e2, e3, rest⟩ => ⟨g, cap, cur, e1, e2, ?_, rest⟩)⟩
  rw [Below.heap_setCell _ _ _ _ (fun e4 => ?_)]
  · exact e3
  · rw [e4, hp] at e3; cases e3; exact hne rfl

def CircRet (w : World) (g : GS) (e : Ending) (w' : World) : Prop :=
  ∃ A c, e = .returned (.agg #[.int .i64 g.inputs, .slice A g.gates.length c]) ∧ w'.ownsRow w.heap.size 123 2 (.slice A g.gates.length c) g.gates.length (gcells g.gates) ∧ Below w.heap.size w w'

set_option maxRecDepth 100000 in
set_option maxHeartbeats 1000000 in
theorem circuit_any (B0 p m : Nat) (A : Option Addr) (c : Nat) (g : GS) (w : World) (hb : Bd B0 w p m A c g) (hn : g.nodes ≤ 65536) :
    Calls Try.prog 50 #[.pointer (some ⟨p, 0, none⟩)] w (CircRet w g) := by
  have hb1 := hb.below ((Below.refl _ _).alloc (Nat.le_refl _) (.cells #[.int .i64 0, .slice none 0 0] 59))
  have k0 := Lib.hid hb1.cell0
  have k1 := Lib.hid hb1.cell1
  have hsrc : Hid (0 < g.gates.length → ∃ ad, A = some ad ∧ ∀ j u, (gcells g.gates)[j]? = some u → (w.alloc (.cells #[.int .i64 0, .slice none 0 0] 59)).cell? (ad.add j) = some u) := fun h => by
    obtain ⟨g', cap, hv, _, _⟩ := World.ownsRow.form hb1.own h
    injection hv with hv
    exact ⟨_, hv, hb1.own.cells (by rw [hv]; rfl)⟩
  have hl : g.gates.length ≤ 65536 := by unfold GS.nodes at hn; omega
  clear hb hb1 hn
  go_enter Try.func50, Try.ntmps50
  go_wp2
  refine wp_region_G [10, 12] [(4, fun w' => w'.cell? ⟨p, 0, none⟩ = some (.int .i64 g.inputs)), (9, fun w' => w'.cell? ⟨p, 1, none⟩ = some (.slice A g.gates.length c))] (by kernel_rfl) ?_
  refine wpG_take (i := 0) (v := ?_) rfl (by kernel_rfl) rfl (by kernel_rfl) (by kernel_rfl) (fun _ _ _ h => h) (by rfl) ?_ (asks_none rfl _) ?_
  rotate_left
  · intro w _; go_simp; rfl
  simp only [Act.put, List.getElem_toArray, List.getElem_cons_zero, List.getElem_cons_succ, List.setIfInBounds_toArray, List.set_cons_zero, List.set_cons_succ]
  refine wpG_take (i := 1) (v := ?_) rfl (by kernel_rfl) rfl (by kernel_rfl) (by kernel_rfl) (fun _ _ _ h => h) (by rfl) ?_ (asks_none rfl _) ?_
  rotate_left
  · intro w _; go_simp; rfl
  simp only [Act.put, List.getElem_toArray, List.getElem_cons_zero, List.getElem_cons_succ, List.setIfInBounds_toArray, List.set_cons_zero, List.set_cons_succ]
  refine wpG_take (i := 2) (v := ?_) rfl (by kernel_rfl) rfl (by kernel_rfl) (by kernel_rfl) (fun _ _ _ h => h) (by rfl) ?_ (asks_none rfl _) ?_
  rotate_left
  · intro w _; go_simp; rfl
  simp only [Act.put, List.getElem_toArray, List.getElem_cons_zero, List.getElem_cons_succ, List.setIfInBounds_toArray, List.set_cons_zero, List.set_cons_succ]
  refine wpG_take (i := 3) (v := ?_) rfl (by kernel_rfl) rfl (by kernel_rfl) (by kernel_rfl) (fun _ _ _ h => h) (by rfl) ?_ (asks_none rfl _) ?_
  rotate_left
  · intro w _; go_simp; rfl
  simp only [Act.put, List.getElem_toArray, List.getElem_cons_zero, List.getElem_cons_succ, List.setIfInBounds_toArray, List.set_cons_zero, List.set_cons_succ]
  refine wpG_take (i := 4) (v := ?_) rfl (by kernel_rfl) rfl (by kernel_rfl) (by kernel_rfl) (fun _ _ _ h => h) (by rfl) ?_ (by simp [asksOf]; exact k0.out) ?_
  rotate_left
  · intro w hw; simp [asksOf] at hw; go_simp; rfl
  simp only [Act.put, List.getElem_toArray, List.getElem_cons_zero, List.getElem_cons_succ, List.setIfInBounds_toArray, List.set_cons_zero, List.set_cons_succ]
  refine wpG_take (i := 5) (v := ?_) rfl (by kernel_rfl) rfl (by kernel_rfl) (by kernel_rfl) (fun _ _ _ h => h) (by rfl) ?_ (asks_none rfl _) ?_
  rotate_left
  · intro w _; go_simp; rfl
  simp only [Act.put, List.getElem_toArray, List.getElem_cons_zero, List.getElem_cons_succ, List.setIfInBounds_toArray, List.set_cons_zero, List.set_cons_succ]
  refine wpG_take (i := 6) (v := ?_) rfl (by kernel_rfl) rfl (by kernel_rfl) (by kernel_rfl) (fun _ _ _ h => h) (by rfl) ?_ (asks_none rfl _) ?_
  rotate_left
  · intro w _; go_simp; rfl
  simp only [Act.put, List.getElem_toArray, List.getElem_cons_zero, List.getElem_cons_succ, List.setIfInBounds_toArray, List.set_cons_zero, List.set_cons_succ]
  refine wpG_take (i := 7) (v := ?_) rfl (by kernel_rfl) rfl (by kernel_rfl) (by kernel_rfl) (fun _ _ _ h => h) (by rfl) ?_ (asks_none rfl _) ?_
  rotate_left
  · intro w _; go_simp; rfl
  simp only [Act.put, List.getElem_toArray, List.getElem_cons_zero, List.getElem_cons_succ, List.setIfInBounds_toArray, List.set_cons_zero, List.set_cons_succ]
  refine wpG_take (i := 8) (v := ?_) rfl (by kernel_rfl) rfl (by kernel_rfl) (by kernel_rfl) (fun _ _ _ h => h) (by rfl) ?_ (asks_none rfl _) ?_
  rotate_left
  · intro w _; go_simp; rfl
  simp only [Act.put, List.getElem_toArray, List.getElem_cons_zero, List.getElem_cons_succ, List.setIfInBounds_toArray, List.set_cons_zero, List.set_cons_succ]
  refine wpG_take (i := 9) (v := ?_) rfl (by kernel_rfl) rfl (by kernel_rfl) (by kernel_rfl) (fun _ _ _ h => h) (by rfl) ?_ (by simp [asksOf]; exact k1.out) ?_
  rotate_left
  · intro w hw; simp [asksOf] at hw; go_simp; rfl
  simp only [Act.put, List.getElem_toArray, List.getElem_cons_zero, List.getElem_cons_succ, List.setIfInBounds_toArray, List.set_cons_zero, List.set_cons_succ]
  refine wpG_loud (i := 10) rfl rfl rfl (by kernel_rfl) (fun K hK => ?_)
  refine wp_append_src _ _ _ _ (by rfl) w.heap.size 123 _ 2 16 Try.underlying57 Try.info123 rfl (by decide) (.slice none 0 0) 0 [] (World.ownsRow_nil _ _ _ _) (by rfl) A g.gates.length c (gcells g.gates) (by rfl) (gcells_length _) hsrc.out (gcells_one _) ?b1 ?b2 ?b3 ?_
  case b1 => unfold maxLen; omega
  case b2 => omega
  case b3 => simp
  intro v w3 hown3 hgrow
  simp only [Nat.zero_add, List.nil_append] at hown3
  have hk := Lib.hid (hgrow.block w.heap.size (by simp) (by simp [Value.ownBlock]))
  obtain ⟨A3, c3, rfl⟩ := own_shape hown3
  have HG := Lib.hid hgrow
  have HO := Lib.hid hown3
  have c3 : w3.heap[w.heap.size]? = some (.cells #[.int .i64 0, .slice none 0 0] 59 (0, 0)) := hk.out.trans (heap_alloc_new w _)
  have q0 : w3.cell? ⟨w.heap.size, 0, none⟩ = some (.int .i64 0) := by simp [World.cell?, c3]
  have q1 : w3.cell? ⟨w.heap.size, 1, none⟩ = some (.slice none 0 0) := by simp [World.cell?, c3]
  have qf0 : w3.frozen? ⟨w.heap.size, 0, none⟩ = false := by simp [World.frozen?, c3]
  have qf1 : w3.frozen? ⟨w.heap.size, 1, none⟩ = false := by simp [World.frozen?, c3]
  have C3 := Lib.hid c3
  have p0 : w3.cell? ⟨p, 0, none⟩ = some (.int .i64 g.inputs) := (hgrow.cell k0.out (by simp [Value.ownBlock]))
  have p1 : w3.cell? ⟨p, 1, none⟩ = some (.slice A g.gates.length c) := (hgrow.cell k1.out (by simp [Value.ownBlock]))
  clear hown3 hgrow c3 hk
  refine hK _ _ ?_ ?_
  · intro q hq hwt; simp only [List.mem_cons, List.not_mem_nil, or_false] at hq; rcases hq with rfl | rfl
    · exact p0
    · exact Bool.noConfusion (hwt.symm.trans (show _ = true from by kernel_rfl))
  clear hK K p0 p1
  simp only [Act.put, List.getElem_toArray, List.getElem_cons_zero, List.getElem_cons_succ, List.setIfInBounds_toArray, List.set_cons_zero, List.set_cons_succ]
  refine wpG_take (i := 11) (v := ?_) rfl (by kernel_rfl) rfl (by kernel_rfl) (by kernel_rfl) (fun _ _ _ h => h) (by rfl) ?_ (asks_none rfl _) ?_
  rotate_left
  · intro w _; go_simp; rfl
  simp only [Act.put, List.getElem_toArray, List.getElem_cons_zero, List.getElem_cons_succ, List.setIfInBounds_toArray, List.set_cons_zero, List.set_cons_succ]
  refine wpG_loud (i := 12) rfl rfl rfl (by kernel_rfl) (fun K hK => ?_)
  go_simp
  refine hK _ _ ?_ ?_
  · intro q hq hwt; simp only [List.mem_cons, List.not_mem_nil, or_false] at hq; rcases hq with rfl | rfl
    · exact Bool.noConfusion (hwt.symm.trans (show _ = true from by kernel_rfl))
    · exact Bool.noConfusion (hwt.symm.trans (show _ = true from by kernel_rfl))
  clear hK K
  refine wpG_done (by kernel_rfl) ?_
  go_wp2
  refine bodyPost_ret (v := .agg #[.int .i64 g.inputs, .slice A3 g.gates.length c3]) (by simp [results, Try.results50, go_sem, q0, q1]) rfl ⟨A3, c3, rfl, ?_, ?_⟩
  · refine own_far (own_far HO.out (p := ⟨w.heap.size, 0, none⟩) C3.out (by decide) _) (p := ⟨w.heap.size, 1, none⟩) (cs := #[.int .i64 g.inputs, .slice none 0 0]) (t := 59) (f := (0, 0)) ?_ (by decide) _
    simp [World.setCell, Array.getElem?_modify, C3.out]
  · have h0 : Below w.heap.size w w3 := ((Below.refl w.heap.size w).alloc (Nat.le_refl _) (.cells #[.int .i64 0, .slice none 0 0] 59)).drew.grown HG.out (by simp) (by simp [Value.ownBlock])
    exact (h0.setCell (Nat.le_refl _) _).setCell (Nat.le_refl _) _
end Go.Proofs.Ytgmcajojigedaaa
