/- The walks of Circuit, Valid, known and Eval. -/
import Derived.Test.YtgmcajojigedaaaGd
set_option linter.unusedSimpArgs false
set_option linter.unusedVariables false
namespace Go.Proofs.Ytgmcajojigedaaa
open Go.RowKit

theorem gcells_one (l : List (Int × Int)) : ∀ u ∈ gcells l, u.oneCell' = true := by
  intro u hu
  simp only [gcells, List.mem_flatMap] at hu
  obtain ⟨q, _, hq⟩ := hu
  simp at hq
  rcases hq with rfl | rfl <;> rfl
theorem own_shape {w : World} {base e size n : Nat} {v : Value} {xs : List Value} (h : w.ownsRow base e size v n xs) : ∃ A c, v = .slice A n c := by
  rcases h.2 with ⟨rfl, rfl⟩ | ⟨g, cap, cur, rfl, _⟩
  · exact ⟨_, _, rfl⟩
  · exact ⟨_, _, rfl⟩

theorem own_far {w : World} {base e size n : Nat} {v : Value} {xs : List Value} (h : w.ownsRow base e size v n xs) {p : Addr} {cs : Array Value} {t : Nat} {f : Nat × Nat} (hp : w.heap[p.block]? = some (.cells cs t f)) (hne : t ≠ e) (u : Value) :
    (w.setCell p u).ownsRow base e size v n xs := by
  refine ⟨h.1, h.2.imp id (fun ⟨g, cap, cur, e1, e2, e3, rest⟩ => ⟨g, cap, cur, e1, e2, ?_, rest⟩)⟩
  rw [Below.heap_setCell _ _ _ _ (fun e4 => ?_)]
  · exact e3
  · rw [e4, hp] at e3; cases e3; exact hne rfl

def CircRet (w : World) (g : GS) (e : Ending) (w' : World) : Prop :=
  ∃ A c, e = .returned (.agg #[.int .i64 g.inputs, .slice A g.gates.length c]) ∧ w'.ownsRow w.heap.size 123 2 (.slice A g.gates.length c) g.gates.length (gcells g.gates) ∧ Below w.heap.size w w'

set_option maxRecDepth 100000 in
set_option maxHeartbeats 1000000 in
theorem circuit_any (B0 p m : Nat) (A : Option Addr) (c : Nat) (g : GS) (w : World) (hb : Bd B0 w p m A c g) (hn : g.nodes ≤ 65536) :
    Calls Try.prog 50 #[.pointer (some ⟨p, 0, none⟩)] w (CircRet w g) := by
  have hb1 := hb.below ((Below.refl _ _).alloc (Nat.le_refl _) (.cells #[.int .i64 0, .slice none 0 0] 59))
  have k0 := Lib.hid hb1.cell0
  have k1 := Lib.hid hb1.cell1
  have hsrc : Hid (0 < g.gates.length → ∃ ad, A = some ad ∧ ∀ j u, (gcells g.gates)[j]? = some u → (w.alloc (.cells #[.int .i64 0, .slice none 0 0] 59)).cell? (ad.add j) = some u) := fun h => by
    obtain ⟨g', cap, hv, _, _⟩ := World.ownsRow.form hb1.own h
    injection hv with hv
    exact ⟨_, hv, hb1.own.cells (by rw [hv]; rfl)⟩
  have hl : g.gates.length ≤ 65536 := by unfold GS.nodes at hn; omega
  clear hb hb1 hn
  go_enter Try.func50, Try.ntmps50
  go_wp2
  refine wp_region_G [10, 12] [(4, fun w' => w'.cell? ⟨p, 0, none⟩ = some (.int .i64 g.inputs)), (9, fun w' => w'.cell? ⟨p, 1, none⟩ = some (.slice A g.gates.length c))] (by kernel_rfl) ?_
  refine wpG_take (i := 0) (v := ?_) rfl (by kernel_rfl) rfl (by kernel_rfl) (by kernel_rfl) (fun _ _ _ h => h) (by rfl) ?_ (asks_none rfl _) ?_
  rotate_left
  · intro w _; go_simp; rfl
  simp only [Act.put, List.getElem_toArray, List.getElem_cons_zero, List.getElem_cons_succ, List.setIfInBounds_toArray, List.set_cons_zero, List.set_cons_succ]
  refine wpG_take (i := 1) (v := ?_) rfl (by kernel_rfl) rfl (by kernel_rfl) (by kernel_rfl) (fun _ _ _ h => h) (by rfl) ?_ (asks_none rfl _) ?_
  rotate_left
  · intro w _; go_simp; rfl
  simp only [Act.put, List.getElem_toArray, List.getElem_cons_zero, List.getElem_cons_succ, List.setIfInBounds_toArray, List.set_cons_zero, List.set_cons_succ]
  refine wpG_take (i := 2) (v := ?_) rfl (by kernel_rfl) rfl (by kernel_rfl) (by kernel_rfl) (fun _ _ _ h => h) (by rfl) ?_ (asks_none rfl _) ?_
  rotate_left
  · intro w _; go_simp; rfl
  simp only [Act.put, List.getElem_toArray, List.getElem_cons_zero, List.getElem_cons_succ, List.setIfInBounds_toArray, List.set_cons_zero, List.set_cons_succ]
  refine wpG_take (i := 3) (v := ?_) rfl (by kernel_rfl) rfl (by kernel_rfl) (by kernel_rfl) (fun _ _ _ h => h) (by rfl) ?_ (asks_none rfl _) ?_
  rotate_left
  · intro w _; go_simp; rfl
  simp only [Act.put, List.getElem_toArray, List.getElem_cons_zero, List.getElem_cons_succ, List.setIfInBounds_toArray, List.set_cons_zero, List.set_cons_succ]
  refine wpG_take (i := 4) (v := ?_) rfl (by kernel_rfl) rfl (by kernel_rfl) (by kernel_rfl) (fun _ _ _ h => h) (by rfl) ?_ (by simp [asksOf]; exact k0.out) ?_
  rotate_left
  · intro w hw; simp [asksOf] at hw; go_simp; rfl
  simp only [Act.put, List.getElem_toArray, List.getElem_cons_zero, List.getElem_cons_succ, List.setIfInBounds_toArray, List.set_cons_zero, List.set_cons_succ]
  refine wpG_take (i := 5) (v := ?_) rfl (by kernel_rfl) rfl (by kernel_rfl) (by kernel_rfl) (fun _ _ _ h => h) (by rfl) ?_ (asks_none rfl _) ?_
  rotate_left
  · intro w _; go_simp; rfl
  simp only [Act.put, List.getElem_toArray, List.getElem_cons_zero, List.getElem_cons_succ, List.setIfInBounds_toArray, List.set_cons_zero, List.set_cons_succ]
  refine wpG_take (i := 6) (v := ?_) rfl (by kernel_rfl) rfl (by kernel_rfl) (by kernel_rfl) (fun _ _ _ h => h) (by rfl) ?_ (asks_none rfl _) ?_
  rotate_left
  · intro w _; go_simp; rfl
  simp only [Act.put, List.getElem_toArray, List.getElem_cons_zero, List.getElem_cons_succ, List.setIfInBounds_toArray, List.set_cons_zero, List.set_cons_succ]
  refine wpG_take (i := 7) (v := ?_) rfl (by kernel_rfl) rfl (by kernel_rfl) (by kernel_rfl) (fun _ _ _ h => h) (by rfl) ?_ (asks_none rfl _) ?_
  rotate_left
  · intro w _; go_simp; rfl
  simp only [Act.put, List.getElem_toArray, List.getElem_cons_zero, List.getElem_cons_succ, List.setIfInBounds_toArray, List.set_cons_zero, List.set_cons_succ]
  refine wpG_take (i := 8) (v := ?_) rfl (by kernel_rfl) rfl (by kernel_rfl) (by kernel_rfl) (fun _ _ _ h => h) (by rfl) ?_ (asks_none rfl _) ?_
  rotate_left
  · intro w _; go_simp; rfl
  simp only [Act.put, List.getElem_toArray, List.getElem_cons_zero, List.getElem_cons_succ, List.setIfInBounds_toArray, List.set_cons_zero, List.set_cons_succ]
  refine wpG_take (i := 9) (v := ?_) rfl (by kernel_rfl) rfl (by kernel_rfl) (by kernel_rfl) (fun _ _ _ h => h) (by rfl) ?_ (by simp [asksOf]; exact k1.out) ?_
  rotate_left
  · intro w hw; simp [asksOf] at hw; go_simp; rfl
  simp only [Act.put, List.getElem_toArray, List.getElem_cons_zero, List.getElem_cons_succ, List.setIfInBounds_toArray, List.set_cons_zero, List.set_cons_succ]
  refine wpG_loud (i := 10) rfl rfl rfl (by kernel_rfl) (fun K hK => ?_)
  refine wp_append_src _ _ _ _ (by rfl) w.heap.size 123 _ 2 16 Try.underlying57 Try.info123 rfl (by decide) (.slice none 0 0) 0 [] (World.ownsRow_nil _ _ _ _) (by rfl) A g.gates.length c (gcells g.gates) (by rfl) (gcells_length _) hsrc.out (gcells_one _) ?b1 ?b2 ?b3 ?_
  case b1 => unfold maxLen; omega
  case b2 => omega
  case b3 => simp
  intro v w3 hown3 hgrow
  simp only [Nat.zero_add, List.nil_append] at hown3
  have hk := Lib.hid (hgrow.block w.heap.size (by simp) (by simp [Value.ownBlock]))
  obtain ⟨A3, c3, rfl⟩ := own_shape hown3
  have HG := Lib.hid hgrow
  have HO := Lib.hid hown3
  have c3 : w3.heap[w.heap.size]? = some (.cells #[.int .i64 0, .slice none 0 0] 59 (0, 0)) := hk.out.trans (heap_alloc_new w _)
  have q0 : w3.cell? ⟨w.heap.size, 0, none⟩ = some (.int .i64 0) := by simp [World.cell?, c3]
  have q1 : w3.cell? ⟨w.heap.size, 1, none⟩ = some (.slice none 0 0) := by simp [World.cell?, c3]
  have qf0 : w3.frozen? ⟨w.heap.size, 0, none⟩ = false := by simp [World.frozen?, c3]
  have qf1 : w3.frozen? ⟨w.heap.size, 1, none⟩ = false := by simp [World.frozen?, c3]
  have C3 := Lib.hid c3
  have p0 : w3.cell? ⟨p, 0, none⟩ = some (.int .i64 g.inputs) := (hgrow.cell k0.out (by simp [Value.ownBlock]))
  have p1 : w3.cell? ⟨p, 1, none⟩ = some (.slice A g.gates.length c) := (hgrow.cell k1.out (by simp [Value.ownBlock]))
  clear hown3 hgrow c3 hk
  refine hK _ _ ?_ ?_
  · intro q hq hwt; simp only [List.mem_cons, List.not_mem_nil, or_false] at hq; rcases hq with rfl | rfl
    · exact p0
    · exact Bool.noConfusion (hwt.symm.trans (show _ = true from by kernel_rfl))
  clear hK K p0 p1
  simp only [Act.put, List.getElem_toArray, List.getElem_cons_zero, List.getElem_cons_succ, List.setIfInBounds_toArray, List.set_cons_zero, List.set_cons_succ]
  refine wpG_take (i := 11) (v := ?_) rfl (by kernel_rfl) rfl (by kernel_rfl) (by kernel_rfl) (fun _ _ _ h => h) (by rfl) ?_ (asks_none rfl _) ?_
  rotate_left
  · intro w _; go_simp; rfl
  simp only [Act.put, List.getElem_toArray, List.getElem_cons_zero, List.getElem_cons_succ, List.setIfInBounds_toArray, List.set_cons_zero, List.set_cons_succ]
  refine wpG_loud (i := 12) rfl rfl rfl (by kernel_rfl) (fun K hK => ?_)
  go_simp
  refine hK _ _ ?_ ?_
  · intro q hq hwt; simp only [List.mem_cons, List.not_mem_nil, or_false] at hq; rcases hq with rfl | rfl
    · exact Bool.noConfusion (hwt.symm.trans (show _ = true from by kernel_rfl))
    · exact Bool.noConfusion (hwt.symm.trans (show _ = true from by kernel_rfl))
  clear hK K
  refine wpG_done (by kernel_rfl) ?_
  go_wp2
  refine bodyPost_ret (v := .agg #[.int .i64 g.inputs, .slice A3 g.gates.length c3]) (by simp [results, Try.results50, go_sem, q0, q1]) rfl ⟨A3, c3, rfl, ?_, ?_⟩
  · refine own_far (own_far HO.out (p := ⟨w.heap.size, 0, none⟩) C3.out (by decide) _) (p := ⟨w.heap.size, 1, none⟩) (cs := #[.int .i64 g.inputs, .slice none 0 0]) (t := 59) (f := (0, 0)) ?_ (by decide) _
    simp [World.setCell, Array.getElem?_modify, C3.out]
  · have h0 : Below w.heap.size w w3 := ((Below.refl w.heap.size w).alloc (Nat.le_refl _) (.cells #[.int .i64 0, .slice none 0 0] 59)).drew.grown HG.out (by simp) (by simp [Value.ownBlock])
    exact (h0.setCell (Nat.le_refl _) _).setCell (Nat.le_refl _) _
end Go.Proofs.Ytgmcajojigedaaa
