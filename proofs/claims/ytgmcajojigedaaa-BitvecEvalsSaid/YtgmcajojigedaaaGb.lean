/- The walk of (*Builder).And. -/
import Derived.Test.YtgmcajojigedaaaGa
import Derived.Test.YtgmcajojigedaaaBase
set_option linter.unusedSimpArgs false
set_option linter.unusedVariables false
namespace Go.Proofs.Ytgmcajojigedaaa
open Go.RowKit
open Go.ChangeMaps (setBlock heap_setBlock_same heap_setBlock_other)

theorem valid2_any (B0 p m : Nat) (A : Option Addr) (c : Nat) (g : GS) (xs : List Int) (A' : Option Addr) (c' : Nat) (w : World) (hb : Bd B0 w p m A c g) (hn : g.nodes ≤ 65536) (hs : SlI w B0 A' c' xs) (hx : ∀ x ∈ xs, isLit g x) :
    Calls Try.prog 139 #[.pointer (some ⟨p, 0, none⟩), .slice A' xs.length c'] w fun e w' => e = .returned (.bool true) ∧ Below w.heap.size w w' := by
  have c3 := hb.cell3
  have k3 : ∀ w', Below w.heap.size w w' → w'.cell? ⟨p, 3, none⟩ = some (.int .i64 0) := fun w' h => (hb.below h).cell3
  have K3 := Lib.hid k3
  have HB := Lib.hid hb
  clear hb k3
  go_enter Try.func139, Try.ntmps139
  go_wp2_with (go_at_call 141; refine (literal_any _ _ _ _ _ _ _ _ _ _ HB.out hn hs hx).mono ?_; rintro e w' ⟨rfl, hb1⟩; have c4 := K3.out w' hb1)
  go_ret
  exact ⟨rfl, hb1⟩

/-- And, as a function on the content. -/
def andF (g : GS) (x y : Int) : GS × Int :=
  if min x y = 0 ∨ min x y = notL (max x y) then (g, 0)
  else if min x y = 1 ∨ min x y = max x y then (g, max x y)
  else match g.gates.findIdx? (· == (min x y, max x y)) with
    | some i => (g, 2 * ((1 + g.inputs + i : Nat) : Int))
    | none => ({ g with gates := g.gates ++ [(min x y, max x y)] }, 2 * (g.nodes : Int))

/-- The circuit is valid. -/
structure GWf (g : GS) : Prop where
  ins : g.inputs ≤ 1024
  size : g.nodes ≤ 65536
  gate : ∀ (i : Nat) (p : Int × Int), g.gates[i]? = some p → 2 ≤ p.1 ∧ p.1 < p.2 ∧ p.2 < 2 * ((1 + g.inputs + i : Nat) : Int) ∧ p.2 ≠ notL p.1
  nodup : g.gates.Nodup
theorem GWf.small {g : GS} (h : GWf g) : ∀ p ∈ g.gates, (0 ≤ p.1 ∧ p.1 ≤ 1000000) ∧ 0 ≤ p.2 ∧ p.2 ≤ 1000000 := by
  intro p hp
  obtain ⟨i, hi⟩ := List.getElem?_of_mem hp
  have := h.gate i p hi
  have := (List.getElem?_eq_some_iff.1 hi).1
  have := h.size
  unfold GS.nodes at this
  omega

def GRet (B0 p m : Nat) (w : World) (g' : GS) (r : Int) (e : Ending) (w' : World) : Prop :=
  ∃ A c, e = .returned (.int .i64 r) ∧ Bd B0 w' p m A c g' ∧ Fr B0 [116, 123] [m] w w'


theorem notL_cases (x : Int) : notL x = x + 1 ∨ notL x = x - 1 := by unfold notL; split <;> simp
theorem isLit.notL {g : GS} {x : Int} (h : isLit g x) : isLit g (notL x) := by
  unfold isLit Go.Proofs.Ytgmcajojigedaaa.notL at *; split <;> omega

theorem gents_length (g : GS) : (gents g).length = g.gates.length := by simp [gents]
theorem gents_get {g : GS} {i : Nat} {e : MapEntry} (h : (gents g)[i]? = some e) : ∃ p, g.gates[i]? = some p ∧ e = { key := gkey p, val := .int .i64 ((1 + g.inputs + i : Nat) : Int), born := i } := by
  simp only [gents, List.getElem?_mapIdx, Option.map_eq_some_iff] at h
  obtain ⟨p, h1, h2⟩ := h
  exact ⟨p, h1, h2.symm⟩
theorem gents_keys {g : GS} (hw : GWf g) : KeysOk Try.prog 123 (gents g) := by
  intro e he
  obtain ⟨i, hi⟩ := List.getElem?_of_mem he
  obtain ⟨p, h1, rfl⟩ := gents_get hi
  have := hw.small p (List.mem_of_getElem? h1)
  exact key123 (WalkArith.wf_i64 (by omega)) (WalkArith.wf_i64 (by omega))
theorem gkey_inj {p q : Int × Int} (h : gkey p = gkey q) : p = q := by
  simp [gkey] at h
  exact Prod.ext h.1 h.2
/-- What the look-up of a gate answers. -/
theorem find_gate (g : GS) (x y : Int) (hw : GWf g) (hx : 0 ≤ x ∧ x ≤ 1000000) (hy : 0 ≤ y ∧ y ≤ 1000000) (W : World) {m k : Nat} (hm : W.heap[m]? = some (.map (gents g).toArray k)) :
    (∃ i, g.gates.findIdx? (· == (x, y)) = some i ∧ (Instr.lookup 114 (.map (some m)) (.agg #[.int .i64 x, .int .i64 y]) true).run Try.prog W = .ok (.tuple #[.int .i64 ((1 + g.inputs + i : Nat) : Int), .bool true]) W) ∨
    (g.gates.findIdx? (· == (x, y)) = none ∧ (Instr.lookup 114 (.map (some m)) (.agg #[.int .i64 x, .int .i64 y]) true).run Try.prog W = .ok (.tuple #[.int .i64 0, .bool false]) W) := by
  obtain ⟨l, hl⟩ := key123 (a := x) (b := y) (WalkArith.wf_i64 (by omega)) (WalkArith.wf_i64 (by omega))
  rcases run_lookup_at law123 true Try.underlying114 (zero3 W) hm (gents_keys hw) hl with ⟨h1, h2⟩ | ⟨j, e, h1, h2, h3⟩
  · refine .inr ⟨?_, h1⟩
    rw [List.findIdx?_eq_none_iff]
    intro p hp
    obtain ⟨i, hi⟩ := List.getElem?_of_mem hp
    have he : (gents g)[i]? = some { key := gkey p, val := .int .i64 ((1 + g.inputs + i : Nat) : Int), born := i } := by simp [gents, hi]
    have := h2 _ (List.mem_of_getElem? he)
    rw [beq_eq_false_iff_ne]
    intro h
    exact this (by rw [h]; rfl)
  · obtain ⟨p, hp, rfl⟩ := gents_get h1
    have hpe : p = (x, y) := gkey_inj h2
    subst hpe
    refine .inl ⟨j, ?_, h3⟩
    obtain ⟨hj, hje⟩ := List.getElem?_eq_some_iff.1 hp
    rw [List.findIdx?_eq_some_iff_getElem]
    refine ⟨hj, by simp [hje], fun i hi => ?_⟩
    simp only [beq_iff_eq]
    intro h
    have e1 := (List.getElem?_inj (j := j) (show i < g.gates.length by omega) hw.nodup).1 (by rw [hp, ← h, List.getElem?_eq_getElem (by omega)])
    omega

theorem cell_setBlock {X : World} {m : Nat} {o : Obj} {a : Addr} (h : a.block ≠ m) : (setBlock X m o).cell? a = X.cell? a :=
  World.cell?_of_block (by simp only [setBlock]; exact Array.getElem?_setIfInBounds_ne (Ne.symm h))

theorem gcells_length (l : List (Int × Int)) : (gcells l).length = l.length * 2 := by
  induction l with
  | nil => rfl
  | cons x r ih => simp [gcells] at ih ⊢; omega
theorem gents_snoc (g : GS) (q : Int × Int) : gents { g with gates := g.gates ++ [q] } = gents g ++ [MapEntry.mk (gkey q) (.int .i64 (g.nodes : Int)) g.gates.length] := by
  simp [gents, List.mapIdx_append, GS.nodes]
theorem gents_born {g : GS} : ∀ e ∈ gents g, e.born < g.gates.length := by
  intro e he
  obtain ⟨i, hi⟩ := List.getElem?_of_mem he
  obtain ⟨p, h1, rfl⟩ := gents_get hi
  exact (List.getElem?_eq_some_iff.1 h1).1
theorem gents_new {g : GS} {x y : Int} (h : g.gates.findIdx? (· == (x, y)) = none) : ∀ e ∈ gents g, e.key ≠ gkey (x, y) := by
  intro e he
  obtain ⟨i, hi⟩ := List.getElem?_of_mem he
  obtain ⟨p, h1, rfl⟩ := gents_get hi
  intro hk
  have := List.findIdx?_eq_none_iff.1 h p (List.mem_of_getElem? h1)
  rw [beq_eq_false_iff_ne] at this
  exact this (gkey_inj hk)

/-- What the storing of a new gate needs, and what it leaves: W the world ahead of the append, w3 behind it, K a block that is apart. -/
theorem and_push {B0 p m : Nat} {A : Option Addr} {c : Nat} {g : GS} {x y : Int} {W w3 : World} {G cap K : Nat} (hb : Bd B0 W p m A c g) (hw : GWf g) (hx : 0 ≤ x ∧ x ≤ 1000000) (hy : 0 ≤ y ∧ y ≤ 1000000)
    (hnew : g.gates.findIdx? (· == (x, y)) = none) (hgrow : W.grownBy w3 (Value.slice A g.gates.length c).ownBlock)
    (hown : w3.ownsRow B0 123 2 (.slice (some ⟨G, 0, none⟩) (g.gates.length + 1) cap) (g.gates.length + 1) (gcells g.gates ++ [.int .i64 x, .int .i64 y]))
    (hK : W.heap[K]? = some (.cells #[.int .i64 x, .int .i64 y] 123 (0, 0))) (hKA : (Value.slice A g.gates.length c).ownBlock ≠ some K) (hKp : K ≠ p) (hKm : K ≠ m) :
    (w3.heap[p]? = some (.cells #[.int .i64 g.inputs, .slice A g.gates.length c, .map (some m), .int .i64 0] 116 (0, 0)) ∧ w3.heap[K]? = some (.cells #[.int .i64 x, .int .i64 y] 123 (0, 0))) ∧
    (Instr.mapEntry 114 (.map (some m)) (.agg #[.int .i64 x, .int .i64 y])).run Try.prog (w3.setCell ⟨p, 1, none⟩ (.slice (some ⟨G, 0, none⟩) (g.gates.length + 1) cap)) =
      .ok (.tuple #[.int .i64 0, .int .i64 (g.gates.length : Int)]) (setBlock (w3.setCell ⟨p, 1, none⟩ (.slice (some ⟨G, 0, none⟩) (g.gates.length + 1) cap)) m (.map (gents g ++ [MapEntry.mk (.agg #[.int .i64 x, .int .i64 y]) (.int .i64 0) g.gates.length]).toArray (g.gates.length + 1))) ∧
    (Instr.entryStore 114 (.map (some m)) (.int .i64 (g.gates.length : Int)) (.int .i64 (g.nodes : Int))).run Try.prog (setBlock (w3.setCell ⟨p, 1, none⟩ (.slice (some ⟨G, 0, none⟩) (g.gates.length + 1) cap)) m (.map (gents g ++ [MapEntry.mk (.agg #[.int .i64 x, .int .i64 y]) (.int .i64 0) g.gates.length]).toArray (g.gates.length + 1))) =
      .ok () (setBlock (setBlock (w3.setCell ⟨p, 1, none⟩ (.slice (some ⟨G, 0, none⟩) (g.gates.length + 1) cap)) m (.map (gents g ++ [MapEntry.mk (.agg #[.int .i64 x, .int .i64 y]) (.int .i64 0) g.gates.length]).toArray (g.gates.length + 1))) m (.map (gents g ++ [MapEntry.mk (.agg #[.int .i64 x, .int .i64 y]) (.int .i64 (g.nodes : Int)) g.gates.length]).toArray (g.gates.length + 1))) ∧
    (Bd B0 (setBlock (setBlock (w3.setCell ⟨p, 1, none⟩ (.slice (some ⟨G, 0, none⟩) (g.gates.length + 1) cap)) m (.map (gents g ++ [MapEntry.mk (.agg #[.int .i64 x, .int .i64 y]) (.int .i64 0) g.gates.length]).toArray (g.gates.length + 1))) m (.map (gents g ++ [MapEntry.mk (.agg #[.int .i64 x, .int .i64 y]) (.int .i64 (g.nodes : Int)) g.gates.length]).toArray (g.gates.length + 1))) p m (some ⟨G, 0, none⟩) cap { g with gates := g.gates ++ [(x, y)] } ∧
     Fr B0 [116, 123] [m] W (setBlock (setBlock (w3.setCell ⟨p, 1, none⟩ (.slice (some ⟨G, 0, none⟩) (g.gates.length + 1) cap)) m (.map (gents g ++ [MapEntry.mk (.agg #[.int .i64 x, .int .i64 y]) (.int .i64 0) g.gates.length]).toArray (g.gates.length + 1))) m (.map (gents g ++ [MapEntry.mk (.agg #[.int .i64 x, .int .i64 y]) (.int .i64 (g.nodes : Int)) g.gates.length]).toArray (g.gates.length + 1)))) := by
  obtain ⟨l, hl⟩ := key123 (a := x) (b := y) (WalkArith.wf_i64 (by omega)) (WalkArith.wf_i64 (by omega))
  have own0 : ∀ k, (Value.slice A g.gates.length c).ownBlock = some k → ∃ cs, W.heap[k]? = some (.cells cs 123 (0, 0)) ∧ B0 ≤ k := fun k hk => by
    rcases hb.own.2 with ⟨h, _⟩ | ⟨g', cap', cur, h, h1, h2, _⟩
    · rw [h] at hk; simp [Value.ownBlock] at hk
    · rw [h] at hk; simp [Value.ownBlock] at hk; subst hk; exact ⟨cur, h2, h1⟩
  have hpA : some p ≠ (Value.slice A g.gates.length c).ownBlock := fun h => by
    obtain ⟨cs, h1, _⟩ := own0 p h.symm
    rw [hb.blk] at h1; cases h1
  have hmA : some m ≠ (Value.slice A g.gates.length c).ownBlock := fun h => by
    obtain ⟨cs, h1, _⟩ := own0 m h.symm
    rw [hb.map] at h1; cases h1
  have hpm : p ≠ m := fun h => by have := hb.blk; rw [h, hb.map] at this; cases this
  have p3 := (hgrow.block p (lt_of_some hb.blk) hpA).trans hb.blk
  have m3 := (hgrow.block m (lt_of_some hb.map) hmA).trans hb.map
  have K3 := (hgrow.block K (lt_of_some hK) (Ne.symm hKA)).trans hK
  generalize hW4 : w3.setCell ⟨p, 1, none⟩ (.slice (some ⟨G, 0, none⟩) (g.gates.length + 1) cap) = W4
  have m4 : W4.heap[m]? = some (.map (gents g).toArray g.gates.length) := by rw [← hW4, Below.heap_setCell _ _ _ _ (Ne.symm hpm)]; exact m3
  have p4 : W4.heap[p]? = some (.cells #[.int .i64 g.inputs, .slice (some ⟨G, 0, none⟩) (g.gates.length + 1) cap, .map (some m), .int .i64 0] 116 (0, 0)) := by
    rw [← hW4]; simp [World.setCell, Array.getElem?_modify, p3]
  have hr := run_entry_new law123 Try.underlying114 (zero3 W4) m4 (gents_keys hw) hl (gents_new hnew)
  refine ⟨⟨p3, K3⟩, hr, ?_, ?_⟩
  · exact run_store_new (t := 114) (heap_setBlock_same m4 _) gents_born
  · have m5 := heap_setBlock_same m4 (.map (gents g ++ [MapEntry.mk (.agg #[.int .i64 x, .int .i64 y]) (.int .i64 0) g.gates.length]).toArray (g.gates.length + 1))
    have p5 := (heap_setBlock_other m4 (.map (gents g ++ [MapEntry.mk (.agg #[.int .i64 x, .int .i64 y]) (.int .i64 0) g.gates.length]).toArray (g.gates.length + 1)) hpm).trans p4
    generalize hW5 : setBlock W4 m (.map (gents g ++ [MapEntry.mk (.agg #[.int .i64 x, .int .i64 y]) (.int .i64 0) g.gates.length]).toArray (g.gates.length + 1)) = W5 at m5 p5 ⊢
    have hGlt : ∃ cur, w3.heap[G]? = some (.cells cur 123 (0, 0)) := by
      rcases hown.2 with ⟨h, _⟩ | ⟨g', cap', cur, h, _, h2, _⟩
      · cases h
      · simp at h; obtain ⟨rfl, _⟩ := h; exact ⟨cur, h2⟩
    obtain ⟨cur, hG⟩ := hGlt
    have hGp : G ≠ p := fun h => by rw [h, p3] at hG; cases hG
    have hGm : G ≠ m := fun h => by rw [h, m3] at hG; cases hG
    refine ⟨⟨?_, hb.hp, hb.hm, ?_, ?_⟩, ?_⟩
    · rw [(heap_setBlock_other m5 _ hpm), p5]; simp
    · simp only [List.length_append, List.length_singleton]
      have e1 : gcells (g.gates ++ [(x, y)]) = gcells g.gates ++ [.int .i64 x, .int .i64 y] := by simp [gcells]
      rw [e1]
      refine ⟨hown.1, hown.2.imp id (fun ⟨g', cap', cur', h, h1, h2, h3⟩ => ⟨g', cap', cur', h, h1, ?_, h3⟩)⟩
      simp at h
      obtain ⟨rfl, _⟩ := h
      rw [(heap_setBlock_other m5 _ hGm), ← hW5, (heap_setBlock_other m4 _ hGm), ← hW4, Below.heap_setCell _ _ _ _ hGp]
      exact h2
    · rw [heap_setBlock_same m5, gents_snoc]; simp [gkey]
    · have f3 : Fr B0 [116, 123] [m] W w3 := (Fr.refl _ _ _ _).grown hgrow (fun k o hk ho => by
        obtain ⟨cs, h1, h2⟩ := own0 k hk
        rw [h1] at ho; cases ho
        exact ⟨h2, by simp [turns]⟩)
      have f4 : Fr B0 [116, 123] [m] W W4 := by rw [← hW4]; exact f3.setCell (p := ⟨p, 1, none⟩) p3 (by simp) hb.hp _
      have fs : ∀ (X : World) (es : Array MapEntry) (k : Nat) (o : Obj), X.heap[m]? = some (.map es k) → Fr B0 [116, 123] [m] X (setBlock X m o) := fun X es k o hX => ⟨rfl, rfl, rfl, by simp [setBlock], fun i oi hi hn => by
        by_cases him : i = m
        · subst him; rw [hX] at hi; cases hi; exact absurd ⟨hb.hm, by simp [turns]⟩ hn
        · exact (heap_setBlock_other hX _ him).trans hi⟩
      have f5 : Fr B0 [116, 123] [m] W W5 := by rw [← hW5]; exact f4.trans (fs W4 _ _ _ m4)
      exact f5.trans (fs W5 _ _ _ m5)

set_option maxRecDepth 100000 in
set_option maxHeartbeats 1000000 in
theorem and_lt (B0 p m : Nat) (A : Option Addr) (c : Nat) (g : GS) (x y : Int) (w : World) (hB : B0 ≤ w.heap.size) (hb : Bd B0 w p m A c g) (hn : g.nodes < 65536) (hw : GWf g) (hx : isLit g x) (hy : isLit g y) (hxy : x < y) :
    Calls Try.prog 107 #[.pointer (some ⟨p, 0, none⟩), .int .i64 x, .int .i64 y] w (GRet B0 p m w (andF g x y).1 (andF g x y).2) := by
  have c3 := hb.cell3
  have HB := Lib.hid hb
  clear hb
  have hlits : ∀ z ∈ [x, y], isLit g z := by intro z hz; simp at hz; rcases hz with rfl | rfl <;> assumption
  have hb1 : Below w.heap.size w (w.alloc (.cells #[.int .i64 x, .int .i64 y] 3)) := (Below.refl _ _).alloc (Nat.le_refl _) _
  have hx0 := hx.1
  have hx1 := hx.2
  have hy0 := hy.1
  have hy1 := hy.2
  have hmin : min x y = x := by omega
  have hmax : max x y = y := by omega
  have HF : Hid (andF g x y = if x = 0 ∨ x = notL y then (g, 0) else if x = 1 ∨ x = y then (g, y) else match g.gates.findIdx? (· == (x, y)) with
    | some i => (g, 2 * ((1 + g.inputs + i : Nat) : Int))
    | none => ({ g with gates := g.gates ++ [(x, y)] }, 2 * (g.nodes : Int))) := by show _ = _; unfold andF; rw [hmin, hmax]
  clear hmin hmax
  have hyb : y < 9223372036854775807 := by omega
  have hxy' : (x == y) = false := by rw [beq_eq_false_iff_ne]; omega
  by_cases h1 : x = 0 ∨ x = notL y
  · have HF2 : Hid (andF g x y = (g, 0)) := by show _ = _; rw [HF.out, if_pos h1]
    have fin : ∀ w1, Below (w.alloc (.cells #[.int .i64 x, .int .i64 y] 3)).heap.size (w.alloc (.cells #[.int .i64 x, .int .i64 y] 3)) w1 → GRet B0 p m w (andF g x y).1 (andF g x y).2 (.returned (.int .i64 0)) w1 := fun w1 h => by
      have h' : Below w.heap.size w w1 := hb1.trans (h.mono (by simp))
      rw [HF2.out]; exact ⟨A, c, rfl, HB.out.below h', .of_below h'⟩
    have FIN := Lib.hid fin
    clear fin
    by_cases hz : x = 0
    · have e0 : (x == 0) = true := by rw [hz]; rfl
      clear h1 hz
      go_enter Try.func107, Try.ntmps107
      go_wp2_with (go_at_call 141; refine (literal_any B0 p m A c g [x, y] _ 2 _ (HB.out.below hb1) (by omega) (sl_new (Value.int .i64) 3 w B0 [x, y] (by simp)) hlits).mono ?_; rintro e w1 ⟨rfl, hb2⟩)
      go_ret
      exact FIN.out w1 hb2
    · have e0 : (x == 0) = false := by rw [beq_eq_false_iff_ne]; exact hz
      have e1 : (x == notL y) = true := by rw [beq_iff_eq]; exact h1.resolve_left hz
      clear h1 hz
      go_enter Try.func107, Try.ntmps107
      go_wp2_with (first
        | (go_at_call 141; refine (literal_any B0 p m A c g [x, y] _ 2 _ (HB.out.below hb1) (by omega) (sl_new (Value.int .i64) 3 w B0 [x, y] (by simp)) hlits).mono ?_; rintro e w1 ⟨rfl, hb2⟩)
        | (go_at_call 108; refine (not_any _ _ (by omega) (by omega)).mono ?_; rintro e w' ⟨rfl, rfl⟩))
      go_ret
      exact FIN.out w1 hb2
  · have e0 : (x == 0) = false := by rw [beq_eq_false_iff_ne]; exact fun h => h1 (.inl h)
    have e1 : (x == notL y) = false := by rw [beq_eq_false_iff_ne]; exact fun h => h1 (.inr h)
    by_cases h2 : x = 1
    · have HF2 : Hid (andF g x y = (g, y)) := by show _ = _; rw [HF.out, if_neg h1, if_pos (.inl h2)]
      have e2 : (x == 1) = true := by rw [h2]; rfl
      have fin : ∀ w1, Below (w.alloc (.cells #[.int .i64 x, .int .i64 y] 3)).heap.size (w.alloc (.cells #[.int .i64 x, .int .i64 y] 3)) w1 → GRet B0 p m w (andF g x y).1 (andF g x y).2 (.returned (.int .i64 y)) w1 := fun w1 h => by
        have h' : Below w.heap.size w w1 := hb1.trans (h.mono (by simp))
        rw [HF2.out]; exact ⟨A, c, rfl, HB.out.below h', .of_below h'⟩
      have FIN := Lib.hid fin
      clear fin h1 h2
      go_enter Try.func107, Try.ntmps107
      go_wp2_with (first
        | (go_at_call 141; refine (literal_any B0 p m A c g [x, y] _ 2 _ (HB.out.below hb1) (by omega) (sl_new (Value.int .i64) 3 w B0 [x, y] (by simp)) hlits).mono ?_; rintro e w1 ⟨rfl, hb2⟩)
        | (go_at_call 108; refine (not_any _ _ (by omega) (by omega)).mono ?_; rintro e w' ⟨rfl, rfl⟩))
      go_ret
      exact FIN.out w1 hb2
    · have e2 : (x == 1) = false := by rw [beq_eq_false_iff_ne]; exact h2
      have HF2 : Hid (andF g x y = match g.gates.findIdx? (· == (x, y)) with
        | some i => (g, 2 * ((1 + g.inputs + i : Nat) : Int))
        | none => ({ g with gates := g.gates ++ [(x, y)] }, 2 * (g.nodes : Int))) := by show _ = _; rw [HF.out, if_neg h1, if_neg (by omega)]
      clear HF h1 h2
      go_enter Try.func107, Try.ntmps107
      go_wp2_with (first
        | (go_at_call 141; refine (literal_any B0 p m A c g [x, y] _ 2 _ (HB.out.below hb1) (by omega) (sl_new (Value.int .i64) 3 w B0 [x, y] (by simp)) hlits).mono ?_; rintro e w1 ⟨rfl, hb2⟩)
        | (go_at_call 108; refine (not_any _ _ (by omega) (by omega)).mono ?_; rintro e w' ⟨rfl, rfl⟩))
      have hb3 := HB.out.below (hb1.trans (hb2.mono (by simp)))
      have hb4 := hb3.below ((Below.refl w1.heap.size w1).alloc (Nat.le_refl _) (.cells #[.int .i64 x, .int .i64 y] 123))
      have c0' := hb4.cell0
      have c1' := hb4.cell1
      have c2' := hb4.cell2
      have c3' := hb4.cell3
      have HB4 := Lib.hid hb4
      have HW1 : Hid (Below w.heap.size w w1) := hb1.trans (hb2.mono (by simp))
      have HB3 := Lib.hid hb3
      clear hb3 hb4 hb2 hb1
      have hmm : ∀ nq, ((w1.alloc (.cells #[.int .i64 x, .int .i64 y] 123)).drewN nq).heap[m]? = some (.map (gents g).toArray g.gates.length) := fun _ => HB4.out.map
      have hil : g.inputs + g.gates.length < 65536 := by unfold GS.nodes at hn; omega
      have hxs : 0 ≤ x ∧ x ≤ 1000000 := by omega
      have hys : 0 ≤ y ∧ y ≤ 1000000 := by omega
      rcases find_gate g x y hw hxs hys _ (hmm 0) with ⟨i, hi, _⟩ | ⟨hi, _⟩
      · have hrun : ∀ nq, (Instr.lookup 114 (.map (some m)) (.agg #[.int .i64 x, .int .i64 y]) true).run Try.prog ((w1.alloc (.cells #[.int .i64 x, .int .i64 y] 123)).drewN nq) = .ok (.tuple #[.int .i64 ((1 + g.inputs + i : Nat) : Int), .bool true]) ((w1.alloc (.cells #[.int .i64 x, .int .i64 y] 123)).drewN nq) := fun nq => by
          rcases find_gate g x y hw hxs hys _ (hmm nq) with ⟨j, hj, h⟩ | ⟨hj, _⟩
          · rw [hi] at hj; cases hj; exact h
          · rw [hi] at hj; cases hj
        have hlt : i < g.gates.length := by
          obtain ⟨h, _⟩ := List.findIdx?_eq_some_iff_getElem.1 hi; exact h
        have HF3 : Hid (andF g x y = (g, 2 * ((1 + g.inputs + i : Nat) : Int))) := by show _ = _; rw [HF2.out, hi]
        clear hmm hi
        go_quiet (fail)
        clear hrun
        go_wp2_with fail
        go_ret
        have hfin : Below w.heap.size w ((w1.alloc (.cells #[.int .i64 x, .int .i64 y] 123)).drewN nq) := below_drewN (HW1.out.alloc HW1.out.size _) nq
        rw [HF3.out]
        exact ⟨A, c, by simp, HB4.out.drewN nq, .of_below hfin⟩
      · have hrun : ∀ nq, (Instr.lookup 114 (.map (some m)) (.agg #[.int .i64 x, .int .i64 y]) true).run Try.prog ((w1.alloc (.cells #[.int .i64 x, .int .i64 y] 123)).drewN nq) = .ok (.tuple #[.int .i64 0, .bool false]) ((w1.alloc (.cells #[.int .i64 x, .int .i64 y] 123)).drewN nq) := fun nq => by
          rcases find_gate g x y hw hxs hys _ (hmm nq) with ⟨j, hj, _⟩ | ⟨_, h⟩
          · rw [hi] at hj; cases hj
          · exact h
        have HF3 : Hid (andF g x y = ({ g with gates := g.gates ++ [(x, y)] }, 2 * (g.nodes : Int))) := by show _ = _; rw [HF2.out, hi]
        have HI := Lib.hid hi
        clear hmm hi
        go_quiet (fail)
        clear hrun
        have hxs' := hxs
        have hys' := hys
        have HN : Hid (g.nodes < 65536) := hn
        have hgl : Hid (g.gates.length < 65536) := by show _ < _; omega
        have hxs' := hxs
        have hys' := hys
        have hgl : Hid (g.gates.length < 65536) := by show _ < _; omega
        have hxs' := hxs
        have hys' := hys
        have hgl : Hid (g.gates.length < 65536) := by show _ < _; omega
        have hxs' := hxs
        have hys' := hys
        have hgl : Hid (g.gates.length < 65536) := by show _ < _; omega
        have hxs' := hxs
        have hys' := hys
        have hgl : Hid (g.gates.length < 65536) := by show _ < _; omega
        have E1 : Hid ((1 : Int) + g.inputs + g.gates.length = g.nodes) := by show _ = _; unfold GS.nodes; omega
        have hge : decide ((65536 : Int) ≤ (g.nodes : Int)) = false := decide_eq_false (by omega)
        clear hn
        go_wp2_with (go_at_call 101; refine (nodes_any _ _ _ _ _ (by omega) (by omega) (by omega)).mono ?_; rintro e w2 ⟨rfl, hb5⟩; rw [E1.out]; clear hxs hys hil hx1 hy1 hyb)
        have hbd2 := (HB4.out.drewN nq).below hb5
        have hK2 : w2.heap[w1.heap.size]? = some (.cells #[.int .i64 x, .int .i64 y] 123 (0, 0)) := (hb5.block w1.heap.size (by simp)).trans (heap_alloc_new w1 _)
        have hpK : p < w1.heap.size := lt_of_some HB3.out.blk
        have hmK : m < w1.heap.size := lt_of_some HB3.out.map
        have hKA : (Value.slice A g.gates.length c).ownBlock ≠ some w1.heap.size := fun h => by
          have := (World.ownsRow.lt HB3.out.own _ h).2
          omega
        have hB2 : B0 ≤ w2.heap.size := by have := HB3.out.hp; have := lt_of_some hbd2.blk; omega
        have hown2 := hbd2.own
        have hKlt : w1.heap.size < w2.heap.size := lt_of_some hK2
        have k1 := hbd2.cell1
        have k2 := hbd2.cell2
        have kf := hbd2.frz 1
        have kK0 : w2.cell? ⟨w1.heap.size, 0, none⟩ = some (.int .i64 x) := by simp [World.cell?, hK2]
        have kK1 : w2.cell? ⟨w1.heap.size, 1, none⟩ = some (.int .i64 y) := by simp [World.cell?, hK2]
        obtain ⟨i0, hi0, hz0, hz1, hz2⟩ := info_parts Try.info123
        have hpm : p ≠ m := fun h => by have := hbd2.blk; rw [h, hbd2.map] at this; cases this
        have HBD := Lib.hid hbd2
        have HW2 : Hid (Below w.heap.size w w2) := (below_drewN (HW1.out.alloc HW1.out.size _) nq).trans (hb5.mono (by have := HW1.out.size; simp; omega))
        have HK2 := Lib.hid hK2
        clear hbd2 hK2 hb5 c0' c1' c2' c3'
        have hu := Try.underlying123
        have al : ∀ (q : Addr) (v : Value), w2.cell? q = some v → ((w2.alloc (.cells #[.int .i64 x, .int .i64 y] 123)).drew).cell? q = some v := fun q v h => (World.cell?_alloc_lt w2 _ q (World.block_lt_of_cell? w2 q h)).trans h
        have AL := Lib.hid al
        clear al
        refine wp_region_G [12, 13, 18, 19, 21] [(4, fun w' => w'.cell? ⟨p, 2, none⟩ = some (.map (some m))), (5, fun w' => w'.cell? ⟨w1.heap.size, 0, none⟩ = some (.int .i64 x) ∧ w'.cell? ⟨w1.heap.size, 1, none⟩ = some (.int .i64 y)), (10, fun w' => w'.cell? ⟨p, 1, none⟩ = some (.slice A g.gates.length c)), (11, fun w' => w'.cell? ⟨w1.heap.size, 0, none⟩ = some (.int .i64 x) ∧ w'.cell? ⟨w1.heap.size, 1, none⟩ = some (.int .i64 y))] (by kernel_rfl) ?_
        refine wpG_take (i := 0) (v := ?_) rfl (by kernel_rfl) rfl (by kernel_rfl) (by kernel_rfl) (fun _ _ _ h => h) (by rfl) ?_ (asks_none rfl _) ?_
        rotate_left
        · intro w _; go_simp; rfl
        simp only [Act.put, List.setIfInBounds_toArray, List.set_cons_zero, List.set_cons_succ]
        refine wpG_take (i := 1) (v := ?_) rfl (by kernel_rfl) rfl (by kernel_rfl) (by kernel_rfl) (fun _ _ _ h => h) (by rfl) ?_ (asks_none rfl _) ?_
        rotate_left
        · intro w _; go_simp; rfl
        simp only [Act.put, List.setIfInBounds_toArray, List.set_cons_zero, List.set_cons_succ]
        refine wpG_take (i := 2) (v := ?_) rfl (by kernel_rfl) rfl (by kernel_rfl) (by kernel_rfl) (fun _ _ _ h => h) (by rfl) ?_ (asks_none rfl _) ?_
        rotate_left
        · intro w _; go_simp; rfl
        simp only [Act.put, List.setIfInBounds_toArray, List.set_cons_zero, List.set_cons_succ]
        refine wpG_take (i := 3) (v := ?_) rfl (by kernel_rfl) rfl (by kernel_rfl) (by kernel_rfl) (fun _ _ _ h => h) (by rfl) ?_ (asks_none rfl _) ?_
        rotate_left
        · intro w _; go_simp; rfl
        simp only [Act.put, List.setIfInBounds_toArray, List.set_cons_zero, List.set_cons_succ]
        refine wpG_take (i := 4) (v := ?_) rfl (by kernel_rfl) rfl (by kernel_rfl) (by kernel_rfl) (fun _ _ _ h => h) (by rfl) ?_ (by simp [asksOf]; exact k2) ?_
        rotate_left
        · intro w hw; simp [asksOf] at hw; go_simp; rfl
        simp only [Act.put, List.setIfInBounds_toArray, List.set_cons_zero, List.set_cons_succ]
        refine wpG_take (i := 5) (v := ?_) rfl (by kernel_rfl) rfl (by kernel_rfl) (by kernel_rfl) (fun _ _ _ h => h) (by rfl) ?_ (by simp [asksOf]; exact ⟨kK0, kK1⟩) ?_
        rotate_left
        · intro w hw; simp [asksOf] at hw; obtain ⟨hw0, hw1⟩ := hw; go_simp; rfl
        simp only [Act.put, List.setIfInBounds_toArray, List.set_cons_zero, List.set_cons_succ]
        refine wpG_take (i := 6) (v := ?_) rfl (by kernel_rfl) rfl (by kernel_rfl) (by kernel_rfl) (fun _ _ _ h => h) (by rfl) ?_ (asks_none rfl _) ?_
        rotate_left
        · intro w _; go_simp; rfl
        simp only [Act.put, List.setIfInBounds_toArray, List.set_cons_zero, List.set_cons_succ]
        refine wpG_take (i := 7) (v := ?_) rfl (by kernel_rfl) rfl (by kernel_rfl) (by kernel_rfl) (fun _ _ _ h => h) (by rfl) ?_ (asks_none rfl _) ?_
        rotate_left
        · intro w _; go_simp; rfl
        simp only [Act.put, List.setIfInBounds_toArray, List.set_cons_zero, List.set_cons_succ]
        refine wpG_take (i := 8) (v := ?_) rfl (by kernel_rfl) rfl (by kernel_rfl) (by kernel_rfl) (fun _ _ _ h => h) (by rfl) ?_ (asks_none rfl _) ?_
        rotate_left
        · intro w _; go_simp; rfl
        simp only [Act.put, List.setIfInBounds_toArray, List.set_cons_zero, List.set_cons_succ]
        refine wpG_take (i := 9) (v := ?_) rfl (by kernel_rfl) rfl (by kernel_rfl) (by kernel_rfl) (fun _ _ _ h => h) (by rfl) ?_ (asks_none rfl _) ?_
        rotate_left
        · intro w _; go_simp; rfl
        simp only [Act.put, List.setIfInBounds_toArray, List.set_cons_zero, List.set_cons_succ]
        refine wpG_take (i := 10) (v := ?_) rfl (by kernel_rfl) rfl (by kernel_rfl) (by kernel_rfl) (fun _ _ _ h => h) (by rfl) ?_ (by simp [asksOf]; exact k1) ?_
        rotate_left
        · intro w hw; simp [asksOf] at hw; go_simp; rfl
        simp only [Act.put, List.setIfInBounds_toArray, List.set_cons_zero, List.set_cons_succ]
        refine wpG_take (i := 11) (v := ?_) rfl (by kernel_rfl) rfl (by kernel_rfl) (by kernel_rfl) (fun _ _ _ h => h) (by rfl) ?_ (by simp [asksOf]; exact ⟨kK0, kK1⟩) ?_
        rotate_left
        · intro w hw; simp [asksOf] at hw; obtain ⟨hw0, hw1⟩ := hw; go_simp; rfl
        simp only [Act.put, List.setIfInBounds_toArray, List.set_cons_zero, List.set_cons_succ]
        refine wpG_take (i := 14) (v := ?_) rfl (by kernel_rfl) rfl (by kernel_rfl) (by kernel_rfl) (fun _ _ _ h => h) (by rfl) ?_ (asks_none rfl _) ?_
        rotate_left
        · intro w _; go_simp; rfl
        simp only [Act.put, List.setIfInBounds_toArray, List.set_cons_zero, List.set_cons_succ]
        refine wpG_loud (i := 12) rfl rfl rfl (by kernel_rfl) (fun K hK => ?_)
        go_simp
        refine hK _ _ ?_ ?_
        · intro q hq hwt; simp only [List.mem_cons, List.not_mem_nil, or_false] at hq; rcases hq with rfl | rfl | rfl | rfl
          · exact AL.out _ _ k2
          · exact ⟨AL.out _ _ kK0, AL.out _ _ kK1⟩
          · exact AL.out _ _ k1
          · exact Bool.noConfusion (hwt.symm.trans (show _ = true from by kernel_rfl))
        clear hK K
        refine wpG_loud (i := 13) rfl rfl rfl (by kernel_rfl) (fun K hK => ?_)
        refine wp_append_lies _ _ _ _ rfl B0 123 i0 _ 2 16 Try.underlying57 hi0 hz0 hz1 hz2 rfl (by omega) _ _ _ rfl ((hown2.alloc _).drew) ⟨w2.heap.size, 0, none⟩ 1 1 [.int .i64 x, .int .i64 y] rfl rfl (World.news_of_block (cs := #[.int .i64 x, .int .i64 y]) (t := 123) (fr := (0, 0)) (heap_alloc_new w2 _)) (by simp [Value.oneCell']) (by omega) ?b1 ?b2 ?b3 (w2.heap.size + 1) (by simp) ?_
        case b1 => unfold maxLen; have := hgl.out; omega
        case b2 => have := hgl.out; omega
        case b3 => simp; omega
        intro G cap w3 hown3 hgrow hat hlt
        obtain ⟨⟨hp3, hK3⟩, hme, hes, hfin⟩ := and_push (K := w1.heap.size) ((HBD.out.below ((Below.refl _ _).alloc (Nat.le_refl _) (.cells #[.int .i64 x, .int .i64 y] 123))).drewN 1) hw hxs' hys' HI.out hgrow hown3 ((Below.heap_alloc w2 _ _ hKlt).trans HK2.out) hKA (by omega) (by omega)
        have HFIN := Lib.hid hfin
        have q1 : w3.cell? ⟨p, 1, none⟩ = some (.slice A g.gates.length c) := by simp [World.cell?, hp3]
        have q2 : w3.cell? ⟨p, 2, none⟩ = some (.map (some m)) := by simp [World.cell?, hp3]
        have q3 : w3.cell? ⟨w1.heap.size, 0, none⟩ = some (.int .i64 x) := by simp [World.cell?, hK3]
        have q4 : w3.cell? ⟨w1.heap.size, 1, none⟩ = some (.int .i64 y) := by simp [World.cell?, hK3]
        have qf : w3.frozen? ⟨p, 1, none⟩ = false := by simp [World.frozen?, hp3]
        clear hfin hp3 hK3 hat
        refine hK _ _ ?_ ?_
        · intro q hq hwt; simp only [List.mem_cons, List.not_mem_nil, or_false] at hq; rcases hq with rfl | rfl | rfl | rfl
          · exact q2
          · exact ⟨q3, q4⟩
          · exact Bool.noConfusion (hwt.symm.trans (show _ = true from by kernel_rfl))
          · exact ⟨q3, q4⟩
        clear hK K
        simp only [Act.put, List.setIfInBounds_toArray, List.set_cons_zero, List.set_cons_succ]
        refine wpG_take (i := 15) (v := ?_) rfl (by kernel_rfl) rfl (by kernel_rfl) (by kernel_rfl) (fun _ _ _ h => h) (by rfl) ?_ (asks_none rfl _) ?_
        rotate_left
        · intro w _; go_simp; rfl
        simp only [Act.put, List.setIfInBounds_toArray, List.set_cons_zero, List.set_cons_succ]
        refine wpG_take (i := 16) (v := ?_) rfl (by kernel_rfl) rfl (by kernel_rfl) (by kernel_rfl) (fun _ _ _ h => h) (by rfl) ?_ (asks_none rfl _) ?_
        rotate_left
        · intro w _; go_simp; rfl
        simp only [Act.put, List.setIfInBounds_toArray, List.set_cons_zero, List.set_cons_succ]
        refine wpG_take (i := 17) (v := ?_) rfl (by kernel_rfl) rfl (by kernel_rfl) (by kernel_rfl) (fun _ _ _ h => h) (by rfl) ?_ (asks_none rfl _) ?_
        rotate_left
        · intro w _; go_simp; rfl
        simp only [Act.put, List.setIfInBounds_toArray, List.set_cons_zero, List.set_cons_succ]
        refine wpG_loud (i := 18) rfl rfl rfl (by kernel_rfl) (fun K hK => ?_)
        go_simp
        refine hK _ _ ?_ ?_
        · intro q hq hwt; simp only [List.mem_cons, List.not_mem_nil, or_false] at hq; rcases hq with rfl | rfl | rfl | rfl
          · exact Bool.noConfusion (hwt.symm.trans (show _ = true from by kernel_rfl))
          · exact ⟨(World.cell?_setCell_other w3 _ _ _ (by simp)).trans q3, (World.cell?_setCell_other w3 _ _ _ (by simp)).trans q4⟩
          · exact Bool.noConfusion (hwt.symm.trans (show _ = true from by kernel_rfl))
          · exact Bool.noConfusion (hwt.symm.trans (show _ = true from by kernel_rfl))
        clear hK K
        refine wpG_loud (i := 19) rfl rfl rfl (by kernel_rfl) (fun K hK => ?_)
        go_simp
        refine hK _ _ ?_ ?_
        · intro q hq hwt; simp only [List.mem_cons, List.not_mem_nil, or_false] at hq; rcases hq with rfl | rfl | rfl | rfl
          · exact Bool.noConfusion (hwt.symm.trans (show _ = true from by kernel_rfl))
          · exact Bool.noConfusion (hwt.symm.trans (show _ = true from by kernel_rfl))
          · exact Bool.noConfusion (hwt.symm.trans (show _ = true from by kernel_rfl))
          · exact Bool.noConfusion (hwt.symm.trans (show _ = true from by kernel_rfl))
        clear hK K
        refine wpG_take (i := 20) (v := ?_) rfl (by kernel_rfl) rfl (by kernel_rfl) (by kernel_rfl) (fun _ _ _ h => h) (by rfl) ?_ (asks_none rfl _) ?_
        rotate_left
        · intro w _; go_simp; rfl
        simp only [Act.put, List.setIfInBounds_toArray, List.set_cons_zero, List.set_cons_succ]
        refine wpG_loud (i := 21) rfl rfl rfl (by kernel_rfl) (fun K hK => ?_)
        go_simp
        refine hK _ _ ?_ ?_
        · intro q hq hwt; simp only [List.mem_cons, List.not_mem_nil, or_false] at hq; rcases hq with rfl | rfl | rfl | rfl
          · exact Bool.noConfusion (hwt.symm.trans (show _ = true from by kernel_rfl))
          · exact Bool.noConfusion (hwt.symm.trans (show _ = true from by kernel_rfl))
          · exact Bool.noConfusion (hwt.symm.trans (show _ = true from by kernel_rfl))
          · exact Bool.noConfusion (hwt.symm.trans (show _ = true from by kernel_rfl))
        clear hK K
        refine wpG_done (by kernel_rfl) ?_
        go_wp2
        go_ret
        have hf0 : Fr B0 [116, 123] [m] w ((w2.alloc (.cells #[.int .i64 x, .int .i64 y] 123)).drewN 1) := .of_below (below_drewN (HW2.out.alloc HW2.out.size _) 1)
        rw [HF3.out]
        exact ⟨_, _, by simp; have := HN.out; unfold wrap64; omega, HFIN.out.1, hf0.trans HFIN.out.2⟩
end Go.Proofs.Ytgmcajojigedaaa
