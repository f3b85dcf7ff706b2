/- The table's Make. -/
import Derived.Test.YtgmcajojigedaaaTg
set_option linter.unusedSimpArgs false
set_option linter.unusedVariables false
namespace Go.Proofs.Ytgmcajojigedaaa
open Go.RowKit Go.Maps
open Go.ChangeMaps (setBlock heap_setBlock_same heap_setBlock_other)

/-- A table that could be made. -/
structure TWf (T : TS) : Prop where
  w1 : 2 ≤ T.width
  w2 : T.width ≤ 8
  size : T.nodes.length ≤ 16384
  fit : ∀ (i : Nat) (t : Tm), T.nodes[i]? = some t → fitsT ⟨T.width, T.nodes.take i⟩ t = true
  nodup : T.nodes.Nodup
theorem dite_or {α : Type} {p : Prop} [Decidable p] {x y z : Option α} {Q : Prop} (h1 : p → (x = z → Q)) (h2 : ¬ p → (y = z → Q)) : (if p then x else y) = z → Q := by
  split
  · exact h1 ‹_›
  · exact h2 ‹_›
theorem formF_lt {op : Int} {f : (Int × Int × Int) × Int} (h : formF op = some f) : 4 ≤ op ∧ op ≤ 17 := by
  revert h
  unfold formF
  repeat' (refine dite_or (fun h _ => by omega) (fun _ => ?_))
  intro h
  cases h
theorem argOk_bd {T : TS} {s x : Int} (h : argOk T s x = true) (hs : T.nodes.length ≤ 16384) : 0 ≤ x ∧ x ≤ 16384 := by
  unfold argOk at h
  split at h
  · have := of_decide_eq_true h; omega
  · rcases hn : nodeAt T x with _ | t
    · rw [hn] at h; cases h
    · obtain ⟨k, rfl, hk⟩ := nodeAt_some hn
      have := (List.getElem?_eq_some_iff.1 hk).1
      omega
theorem fits_bd {T : TS} {t : Tm} (h : fitsT T t = true) (hs : T.nodes.length ≤ 16384) : (0 ≤ t.op ∧ t.op ≤ 17) ∧ (-128 ≤ t.v ∧ t.v ≤ 127) ∧ (0 ≤ t.a ∧ t.a ≤ 16384) ∧ (0 ≤ t.b ∧ t.b ≤ 16384) ∧ (0 ≤ t.c ∧ t.c ≤ 16384) := by
  unfold fitsT at h
  rcases hf : formF t.op with _ | ⟨⟨s0, s1, s2⟩, s⟩
  · rw [hf] at h
    dsimp only at h
    unfold leafOk at h
    rw [Bool.and_eq_true] at h
    obtain ⟨h1, h2⟩ := h
    have h1 := of_decide_eq_true h1
    split at h2
    · have := of_decide_eq_true h2; omega
    · split at h2
      · have := of_decide_eq_true h2; have := wrapW_small T.width t.v; omega
      · split at h2
        · have := of_decide_eq_true h2; omega
        · cases h2
  · rw [hf] at h
    dsimp only at h
    simp only [Bool.and_eq_true, decide_eq_true_eq] at h
    obtain ⟨⟨⟨h1, h2⟩, h3⟩, h4⟩ := h
    have := formF_lt hf
    have := argOk_bd h1 hs
    have := argOk_bd h2 hs
    have := argOk_bd h3 hs
    omega
theorem fits_ok {T : TS} {t : Tm} (h : fitsT T t = true) (hs : T.nodes.length ≤ 16384) : t.ok := by
  obtain ⟨h1, h2, h3, h4, h5⟩ := fits_bd h hs
  exact ⟨WalkArith.wf_i64 (by omega), WalkArith.wf_i64 (by omega), WalkArith.wf_i64 (by omega), WalkArith.wf_i64 (by omega), WalkArith.wf_i64 (by omega)⟩
theorem TWf.ok {T : TS} (h : TWf T) : ∀ t ∈ T.nodes, t.ok := fun t ht => by
  obtain ⟨i, hi⟩ := List.getElem?_of_mem ht
  exact fits_ok (h.fit i t hi) (by show (T.nodes.take i).length ≤ _; rw [List.length_take]; have := h.size; omega)

/-! ### The index -/
theorem tents_get {l : List Tm} {i : Nat} {e : MapEntry} (h : (tents l)[i]? = some e) : ∃ t, l[i]? = some t ∧ e = { key := tagg t, val := .int .i64 (i : Int), born := i } := by
  simp only [tents, List.getElem?_mapIdx, Option.map_eq_some_iff] at h
  obtain ⟨t, h1, h2⟩ := h
  exact ⟨t, h1, h2.symm⟩
theorem tents_keys {l : List Tm} (h : ∀ t ∈ l, t.ok) : KeysOk Try.prog 84 (tents l) := by
  intro e he
  obtain ⟨i, hi⟩ := List.getElem?_of_mem he
  obtain ⟨t, h1, rfl⟩ := tents_get hi
  exact key84 (h t (List.mem_of_getElem? h1))
theorem tagg_inj {s t : Tm} (h : tagg s = tagg t) : s = t := by
  obtain ⟨o, v, a, b, c⟩ := s
  obtain ⟨o', v', a', b', c'⟩ := t
  simp [tagg] at h
  simp [h]
theorem find_node (l : List Tm) (t : Tm) (hl : ∀ t ∈ l, t.ok) (hd : l.Nodup) (ht : t.ok) (W : World) {m k : Nat} (hm : W.heap[m]? = some (.map (tents l).toArray k)) :
    (∃ i, l.findIdx? (· == t) = some i ∧ (Instr.lookup 132 (.map (some m)) (tagg t) true).run Try.prog W = .ok (.tuple #[.int .i64 (i : Int), .bool true]) W) ∨
    (l.findIdx? (· == t) = none ∧ (Instr.lookup 132 (.map (some m)) (tagg t) true).run Try.prog W = .ok (.tuple #[.int .i64 0, .bool false]) W) := by
  obtain ⟨kl, hkl⟩ := key84 ht
  rcases run_lookup_at law84 true Try.underlying132 (zero3 W) hm (tents_keys hl) hkl with ⟨h1, h2⟩ | ⟨j, e, h1, h2, h3⟩
  · refine .inr ⟨?_, h1⟩
    rw [List.findIdx?_eq_none_iff]
    intro p hp
    obtain ⟨i, hi⟩ := List.getElem?_of_mem hp
    have he : (tents l)[i]? = some { key := tagg p, val := .int .i64 (i : Int), born := i } := by simp [tents, hi]
    have := h2 _ (List.mem_of_getElem? he)
    rw [beq_eq_false_iff_ne]
    intro h
    exact this (by rw [h])
  · obtain ⟨p, hp, rfl⟩ := tents_get h1
    have hpe : p = t := tagg_inj h2
    subst hpe
    refine .inl ⟨j, ?_, h3⟩
    obtain ⟨hj, hje⟩ := List.getElem?_eq_some_iff.1 hp
    rw [List.findIdx?_eq_some_iff_getElem]
    refine ⟨hj, by simp [hje], fun i hi => ?_⟩
    simp only [beq_iff_eq]
    intro h
    have e1 := (List.getElem?_inj (j := j) (show i < l.length by omega) hd).1 (by rw [hp, ← h, List.getElem?_eq_getElem (by omega)])
    omega
theorem tents_snoc (l : List Tm) (t : Tm) : tents (l ++ [t]) = tents l ++ [MapEntry.mk (tagg t) (.int .i64 (l.length : Int)) l.length] := by
  simp [tents, List.mapIdx_append]
theorem tents_born {l : List Tm} : ∀ e ∈ tents l, e.born < l.length := by
  intro e he
  obtain ⟨i, hi⟩ := List.getElem?_of_mem he
  obtain ⟨p, h1, rfl⟩ := tents_get hi
  exact (List.getElem?_eq_some_iff.1 h1).1
theorem tents_new {l : List Tm} {t : Tm} (h : l.findIdx? (· == t) = none) : ∀ e ∈ tents l, e.key ≠ tagg t := by
  intro e he
  obtain ⟨i, hi⟩ := List.getElem?_of_mem he
  obtain ⟨p, h1, rfl⟩ := tents_get hi
  intro hk
  have := List.findIdx?_eq_none_iff.1 h p (List.mem_of_getElem? h1)
  rw [beq_eq_false_iff_ne] at this
  exact this (tagg_inj hk)

/-- w' is w but for new blocks and what belongs to one table. -/
structure TFr (p m : Nat) (A : Option Addr) (w w' : World) : Prop where
  os : w'.os = w.os
  tape : w'.tape = w.tape
  output : w'.output = w.output
  size : w.heap.size ≤ w'.heap.size
  block : ∀ k o, w.heap[k]? = some o → k ≠ p → k ≠ m → (∀ a, A = some a → k ≠ a.block) → w'.heap[k]? = some o
/-- The row stays where it was, or lies in a new block. -/
def RowOf (w : World) (A A' : Option Addr) : Prop := ∀ a', A' = some a' → (∃ a, A = some a ∧ a.block = a'.block) ∨ w.heap.size ≤ a'.block
section
variable {p m : Nat} {A A' A'' : Option Addr} {w w' w'' : World}
theorem RowOf.refl (w : World) (A : Option Addr) : RowOf w A A := fun a' h => .inl ⟨a', h, rfl⟩
theorem TFr.refl (p m : Nat) (A : Option Addr) (w : World) : TFr p m A w w := ⟨rfl, rfl, rfl, Nat.le_refl _, fun _ _ h _ _ _ => h⟩
theorem TFr.of_below (h : Below w.heap.size w w') : TFr p m A w w' := ⟨h.os, h.tape, h.output, h.size, fun k _ hk _ _ _ => (h.block k (lt_of_some hk)).trans hk⟩
theorem TFr.trans (h : TFr p m A w w') (k : TFr p m A' w' w'') (r : RowOf w A A') : TFr p m A w w'' :=
  ⟨k.os.trans h.os, k.tape.trans h.tape, k.output.trans h.output, Nat.le_trans h.size k.size, fun i o hi h1 h2 h3 => by
    refine k.block i o (h.block i o hi h1 h2 h3) h1 h2 fun a' ha' e => ?_
    rcases r a' ha' with ⟨a, ha, hb⟩ | hb
    · exact h3 a ha (by omega)
    · have := lt_of_some hi; omega⟩
theorem RowOf.trans (h : RowOf w A A') (hz : w.heap.size ≤ w'.heap.size) (k : RowOf w' A' A'') : RowOf w A A'' := fun a'' ha => by
  rcases k a'' ha with ⟨a', ha', e⟩ | h1
  · rcases h a' ha' with ⟨a, h2, e2⟩ | h2
    · exact .inl ⟨a, h2, by omega⟩
    · exact .inr (by omega)
  · exact .inr (by omega)
theorem TFr.fr {B0 c : Nat} {T : TS} (h : TFr p m A w w') (hb : Tb B0 w p m A c T) : Fr B0 [134, 84] [m] w w' :=
  ⟨h.os, h.tape, h.output, h.size, fun k o hk hn => by
    refine h.block k o hk (fun e => ?_) (fun e => ?_) (fun a ha e => ?_)
    · subst e; rw [hb.blk] at hk; cases hk; exact hn ⟨hb.hp, by simp [turns]⟩
    · subst e; rw [hb.map] at hk; cases hk; exact hn ⟨hb.hm, by simp [turns]⟩
    · rcases hb.own.2 with ⟨h0, _⟩ | ⟨g, cap, cur, e1, e2, e3, _⟩
      · injection h0 with h0; rw [h0] at ha; cases ha
      · injection e1 with e1
        rw [e1] at ha
        cases ha
        subst e
        rw [e3] at hk; cases hk; exact hn ⟨e2, by simp [turns]⟩⟩
end

set_option maxHeartbeats 1000000 in
theorem make_push {B0 p m : Nat} {A : Option Addr} {c0 : Nat} {T : TS} {t : Tm} {W w3 : World} {G cap K : Nat} (hb : Tb B0 W p m A c0 T) (hok : ∀ t ∈ T.nodes, t.ok) (ht : t.ok)
    (hnew : T.nodes.findIdx? (· == t) = none) (hgrow : W.grownBy w3 (Value.slice A T.nodes.length c0).ownBlock)
    (hown : w3.ownsRow B0 84 5 (.slice (some ⟨G, 0, none⟩) (T.nodes.length + 1) cap) (T.nodes.length + 1) (tcells T.nodes ++ tcell t)) (hG0 : (Value.slice A T.nodes.length c0).ownBlock = some G ∨ W.heap.size ≤ G)
    (hK : W.heap[K]? = some (.cells (tcell t).toArray 84 (0, 0))) (hKA : (Value.slice A T.nodes.length c0).ownBlock ≠ some K) :
    (w3.heap[p]? = some (.cells #[.int .i64 T.width, .slice A T.nodes.length c0, .map (some m)] 134 (0, 0)) ∧ w3.heap[K]? = some (.cells (tcell t).toArray 84 (0, 0))) ∧
    (Instr.mapEntry 132 (.map (some m)) (tagg t)).run Try.prog (w3.setCell ⟨p, 1, none⟩ (.slice (some ⟨G, 0, none⟩) (T.nodes.length + 1) cap)) =
      .ok (.tuple #[.int .i64 0, .int .i64 (T.nodes.length : Int)]) (setBlock (w3.setCell ⟨p, 1, none⟩ (.slice (some ⟨G, 0, none⟩) (T.nodes.length + 1) cap)) m (.map (tents T.nodes ++ [MapEntry.mk (tagg t) (.int .i64 0) T.nodes.length]).toArray (T.nodes.length + 1))) ∧
    (Instr.entryStore 132 (.map (some m)) (.int .i64 (T.nodes.length : Int)) (.int .i64 (T.nodes.length : Int))).run Try.prog (setBlock (w3.setCell ⟨p, 1, none⟩ (.slice (some ⟨G, 0, none⟩) (T.nodes.length + 1) cap)) m (.map (tents T.nodes ++ [MapEntry.mk (tagg t) (.int .i64 0) T.nodes.length]).toArray (T.nodes.length + 1))) =
      .ok () (setBlock (setBlock (w3.setCell ⟨p, 1, none⟩ (.slice (some ⟨G, 0, none⟩) (T.nodes.length + 1) cap)) m (.map (tents T.nodes ++ [MapEntry.mk (tagg t) (.int .i64 0) T.nodes.length]).toArray (T.nodes.length + 1))) m (.map (tents T.nodes ++ [MapEntry.mk (tagg t) (.int .i64 (T.nodes.length : Int)) T.nodes.length]).toArray (T.nodes.length + 1))) ∧
    (Tb B0 (setBlock (setBlock (w3.setCell ⟨p, 1, none⟩ (.slice (some ⟨G, 0, none⟩) (T.nodes.length + 1) cap)) m (.map (tents T.nodes ++ [MapEntry.mk (tagg t) (.int .i64 0) T.nodes.length]).toArray (T.nodes.length + 1))) m (.map (tents T.nodes ++ [MapEntry.mk (tagg t) (.int .i64 (T.nodes.length : Int)) T.nodes.length]).toArray (T.nodes.length + 1))) p m (some ⟨G, 0, none⟩) cap ⟨T.width, T.nodes ++ [t]⟩ ∧
     TFr p m A W (setBlock (setBlock (w3.setCell ⟨p, 1, none⟩ (.slice (some ⟨G, 0, none⟩) (T.nodes.length + 1) cap)) m (.map (tents T.nodes ++ [MapEntry.mk (tagg t) (.int .i64 0) T.nodes.length]).toArray (T.nodes.length + 1))) m (.map (tents T.nodes ++ [MapEntry.mk (tagg t) (.int .i64 (T.nodes.length : Int)) T.nodes.length]).toArray (T.nodes.length + 1))) ∧ RowOf W A (some ⟨G, 0, none⟩)) := by
  obtain ⟨l, hl⟩ := key84 ht
  have own0 : ∀ k, (Value.slice A T.nodes.length c0).ownBlock = some k → ∃ cs, W.heap[k]? = some (.cells cs 84 (0, 0)) ∧ B0 ≤ k := fun k hk => by
    rcases hb.own.2 with ⟨h, _⟩ | ⟨g', cap', cur, h, h1, h2, _⟩
    · rw [h] at hk; simp [Value.ownBlock] at hk
    · rw [h] at hk; simp [Value.ownBlock] at hk; subst hk; exact ⟨cur, h2, h1⟩
  have hpA : some p ≠ (Value.slice A T.nodes.length c0).ownBlock := fun h => by
    obtain ⟨cs, h1, _⟩ := own0 p h.symm
    rw [hb.blk] at h1; cases h1
  have hmA : some m ≠ (Value.slice A T.nodes.length c0).ownBlock := fun h => by
    obtain ⟨cs, h1, _⟩ := own0 m h.symm
    rw [hb.map] at h1; cases h1
  have hpm : p ≠ m := fun h => by have := hb.blk; rw [h, hb.map] at this; cases this
  have p3 := (hgrow.block p (lt_of_some hb.blk) hpA).trans hb.blk
  have m3 := (hgrow.block m (lt_of_some hb.map) hmA).trans hb.map
  have K3 := (hgrow.block K (lt_of_some hK) (Ne.symm hKA)).trans hK
  generalize hW4 : w3.setCell ⟨p, 1, none⟩ (.slice (some ⟨G, 0, none⟩) (T.nodes.length + 1) cap) = W4
  have m4 : W4.heap[m]? = some (.map (tents T.nodes).toArray T.nodes.length) := by rw [← hW4, Below.heap_setCell _ _ _ _ (Ne.symm hpm)]; exact m3
  have p4 : W4.heap[p]? = some (.cells #[.int .i64 T.width, .slice (some ⟨G, 0, none⟩) (T.nodes.length + 1) cap, .map (some m)] 134 (0, 0)) := by
    rw [← hW4]; simp [World.setCell, Array.getElem?_modify, p3]
  have hr := run_entry_new law84 Try.underlying132 (zero3 W4) m4 (tents_keys hok) hl (tents_new hnew)
  refine ⟨⟨p3, K3⟩, hr, ?_, ?_⟩
  · exact run_store_new (t := 132) (heap_setBlock_same m4 _) tents_born
  · have m5 := heap_setBlock_same m4 (.map (tents T.nodes ++ [MapEntry.mk (tagg t) (.int .i64 0) T.nodes.length]).toArray (T.nodes.length + 1))
    have p5 := (heap_setBlock_other m4 (.map (tents T.nodes ++ [MapEntry.mk (tagg t) (.int .i64 0) T.nodes.length]).toArray (T.nodes.length + 1)) hpm).trans p4
    generalize hW5 : setBlock W4 m (.map (tents T.nodes ++ [MapEntry.mk (tagg t) (.int .i64 0) T.nodes.length]).toArray (T.nodes.length + 1)) = W5 at m5 p5 ⊢
    have hGlt : ∃ cur, w3.heap[G]? = some (.cells cur 84 (0, 0)) := by
      rcases hown.2 with ⟨h, _⟩ | ⟨g', cap', cur, h, _, h2, _⟩
      · cases h
      · simp at h; obtain ⟨rfl, _⟩ := h; exact ⟨cur, h2⟩
    obtain ⟨cur, hG⟩ := hGlt
    have hGp : G ≠ p := fun h => by rw [h, p3] at hG; cases hG
    have hGm : G ≠ m := fun h => by rw [h, m3] at hG; cases hG
    refine ⟨⟨?_, hb.hp, hb.hm, ?_, ?_⟩, ?_, ?_⟩
    · rw [(heap_setBlock_other m5 _ hpm), p5]; simp
    · simp only [List.length_append, List.length_singleton]
      have e1 : tcells (T.nodes ++ [t]) = tcells T.nodes ++ tcell t := by simp [tcells]
      rw [e1]
      refine ⟨hown.1, hown.2.imp id (fun ⟨g', cap', cur', h, h1, h2, h3⟩ => ⟨g', cap', cur', h, h1, ?_, h3⟩)⟩
      simp at h
      obtain ⟨rfl, _⟩ := h
      rw [(heap_setBlock_other m5 _ hGm), ← hW5, (heap_setBlock_other m4 _ hGm), ← hW4, Below.heap_setCell _ _ _ _ hGp]
      exact h2
    · rw [heap_setBlock_same m5, tents_snoc]; simp
    · have f3 : TFr p m A W w3 := ⟨hgrow.os, hgrow.tape, hgrow.output, hgrow.size, fun k o hk h1 h2 h3 => by
        refine (hgrow.block k (lt_of_some hk) (fun e => ?_)).trans hk
        cases A with
        | none => simp [Value.ownBlock] at e
        | some ad => simp [Value.ownBlock] at e; exact h3 ad rfl e⟩
      have f4 : TFr p m A w3 W4 := by rw [← hW4]; exact ⟨rfl, rfl, rfl, by simp [World.setCell], fun k o hk h1 _ _ => by rw [Below.heap_setCell _ _ _ _ (fun e => h1 e)]; exact hk⟩
      have fs : ∀ (X : World) (es : Array MapEntry) (k : Nat) (o : Obj), X.heap[m]? = some (.map es k) → TFr p m A X (setBlock X m o) := fun X es k o hX => ⟨rfl, rfl, rfl, by simp [setBlock], fun i oi hi _ h2 _ => (heap_setBlock_other hX _ h2).trans hi⟩
      have f5 : TFr p m A W4 W5 := by rw [← hW5]; exact fs W4 _ _ _ m4
      exact ((f3.trans f4 (.refl _ _)).trans f5 (.refl _ _)).trans (fs W5 _ _ _ m5) (.refl _ _)
    · intro a' ha'
      cases ha'
      rcases hG0 with h | h
      · cases A with
        | none => simp [Value.ownBlock] at h
        | some ad => simp [Value.ownBlock] at h; exact .inl ⟨ad, rfl, h⟩
      · exact .inr h

def makeF (T : TS) (t : Tm) : TS × Int × Int :=
  if fitsT T t = true then
    match T.nodes.findIdx? (· == t) with
    | some i => (T, (i : Int), 0)
    | none => if 16384 ≤ T.nodes.length then (T, 0, 8) else (⟨T.width, T.nodes ++ [t]⟩, (T.nodes.length : Int), 0)
  else (T, 0, 1)
def MakeRet (B0 p m : Nat) (A : Option Addr) (w : World) (R : TS × Int × Int) (e : Ending) (w' : World) : Prop :=
  ∃ A' c', e = .returned (.tuple #[.int .i64 R.2.1, .int .i64 R.2.2]) ∧ Tb B0 w' p m A' c' R.1 ∧ TFr p m A w w' ∧ RowOf w A A'

section
variable {B0 p m : Nat} {A : Option Addr} {c' : Nat} {T : TS} {w : World}
set_option maxRecDepth 100000 in
set_option maxHeartbeats 4000000 in
theorem make_any (hB : B0 ≤ w.heap.size) (hb : Tb B0 w p m A c' T) (hw : TWf T) (t : Tm) :
    Calls Try.prog 84 #[.pointer (some ⟨p, 0, none⟩), tagg t] w (MakeRet B0 p m A w (makeF T t)) := by
  obtain ⟨op, v, a, b, c⟩ := t
  have HB := Lib.hid hb
  obtain ⟨fit, hfit⟩ : ∃ r, fitsT T ⟨op, v, a, b, c⟩ = r := ⟨_, rfl⟩
  have ARM : Hid (∀ w', Tb B0 w' p m A c' T → Calls Try.prog 135 #[.pointer (some ⟨p, 0, none⟩), tagg ⟨op, v, a, b, c⟩] w' (FitRet w' fit)) := fun w' h => by rw [← hfit]; exact fitsT_any h _
  cases fit with
  | false =>
    have HM : Hid (makeF T ⟨op, v, a, b, c⟩ = (T, 0, 1)) := if_neg (by rw [hfit]; simp)
    clear hb hfit
    unfold tagg
    go_enter Try.func84, Try.ntmps84
    go_wp2_with (go_at_call 135; go_must (refine (ARM.out _ (HB.out.below (below_alloc w (.cells #[.int .i64 op, .int .i64 v, .int .i64 a, .int .i64 b, .int .i64 c] 84)))).mono ?_; rintro e w1 ⟨rfl, hb1⟩))
    go_ret2
    rw [HM.out]
    exact ⟨A, c', rfl, HB.out.below (below_of1 hb1), .of_below (below_of1 hb1), .refl _ _⟩
  | true =>
    have HF := Lib.hid hfit
    have OKT : Hid (Tm.ok ⟨op, v, a, b, c⟩) := fits_ok hfit hw.size
    have OKS : Hid (∀ t ∈ T.nodes, t.ok) := hw.ok
    have ND : Hid T.nodes.Nodup := hw.nodup
    have hsz := hw.size
    have hgl : Hid (T.nodes.length ≤ 16384) := hsz
    have HBW0 : Hid (B0 ≤ w.heap.size) := hB
    clear hb hfit
    unfold tagg
    go_enter Try.func84, Try.ntmps84
    go_wp2_with (go_at_call 135; go_must (refine (ARM.out _ (HB.out.below (below_alloc w (.cells #[.int .i64 op, .int .i64 v, .int .i64 a, .int .i64 b, .int .i64 c] 84)))).mono ?_; rintro e w2 ⟨rfl, hb1⟩))
    obtain ⟨hbw, hKl, k0, k1, k2, k3, k4⟩ := box84 (t := ⟨op, v, a, b, c⟩) hb1
    dsimp only at k0 k1 k2 k3 k4
    have HBW := Lib.hid hbw
    have hKlt := Lib.hid hKl
    have HK2 : Hid (w2.heap[w.heap.size]? = some (.cells #[.int .i64 op, .int .i64 v, .int .i64 a, .int .i64 b, .int .i64 c] 84 (0, 0))) := (hb1.block _ (by simp)).trans (heap_alloc_new w _)
    have ht2 := HB.out.below hbw
    have hown2 := ht2.own
    have HT2 := Lib.hid ht2
    have kc1 := ht2.cell1
    have kc2 := ht2.cell2
    have hmm : ∀ nq, (w2.drewN nq).heap[m]? = some (.map (tents T.nodes).toArray T.nodes.length) := fun _ => HT2.out.map
    have HPK : Hid (w.heap.size ≠ p) := fun e => by have := lt_of_some HB.out.blk; omega
    have hKA : Hid ((Value.slice A T.nodes.length c').ownBlock ≠ some w.heap.size) := fun e => by
      have := World.ownsRow.lt HB.out.own _ e; omega
    clear hb1 hbw ht2 ARM
    rcases find_node T.nodes ⟨op, v, a, b, c⟩ OKS.out ND.out OKT.out _ (hmm 0) with ⟨i, hi, _⟩ | ⟨hi, _⟩
    · have hrun : ∀ nq, (Instr.lookup 132 (.map (some m)) (.agg #[.int .i64 op, .int .i64 v, .int .i64 a, .int .i64 b, .int .i64 c]) true).run Try.prog (w2.drewN nq) = .ok (.tuple #[.int .i64 (i : Int), .bool true]) (w2.drewN nq) := fun nq => by
        rcases find_node T.nodes ⟨op, v, a, b, c⟩ OKS.out ND.out OKT.out _ (hmm nq) with ⟨j, hj, h⟩ | ⟨hj, _⟩
        · rw [hi] at hj; cases hj; exact h
        · rw [hi] at hj; cases hj
      have HM : Hid (makeF T ⟨op, v, a, b, c⟩ = (T, (i : Int), 0)) := (if_pos HF.out).trans (by rw [hi])
      clear hmm hi hown2
      go_quiet (fail)
      clear hrun
      go_wp2
      go_ret2
      rw [HM.out]
      exact ⟨A, c', rfl, HT2.out.drewN nq, .of_below (below_drewN HBW.out nq), .refl _ _⟩
    · have hrun : ∀ nq, (Instr.lookup 132 (.map (some m)) (.agg #[.int .i64 op, .int .i64 v, .int .i64 a, .int .i64 b, .int .i64 c]) true).run Try.prog (w2.drewN nq) = .ok (.tuple #[.int .i64 0, .bool false]) (w2.drewN nq) := fun nq => by
        rcases find_node T.nodes ⟨op, v, a, b, c⟩ OKS.out ND.out OKT.out _ (hmm nq) with ⟨j, hj, _⟩ | ⟨_, h⟩
        · rw [hi] at hj; cases hj
        · exact h
      by_cases hge : 16384 ≤ T.nodes.length
      · have HM : Hid (makeF T ⟨op, v, a, b, c⟩ = (T, 0, 8)) := (if_pos HF.out).trans (by rw [hi]; exact if_pos hge)
        have d1 : decide ((16384 : Int) ≤ (T.nodes.length : Int)) = true := decide_eq_true (by omega)
        have d2 : decide (16384 ≤ T.nodes.length) = true := decide_eq_true hge
        clear hmm hi hown2 hge
        go_quiet (fail)
        clear hrun
        go_wp2
        go_ret2
        rw [HM.out]
        exact ⟨A, c', rfl, HT2.out.drewN nq, .of_below (below_drewN HBW.out nq), .refl _ _⟩
      · have HM : Hid (makeF T ⟨op, v, a, b, c⟩ = (⟨T.width, T.nodes ++ [⟨op, v, a, b, c⟩]⟩, (T.nodes.length : Int), 0)) := (if_pos HF.out).trans (by rw [hi]; exact if_neg hge)
        have d1 : decide ((16384 : Int) ≤ (T.nodes.length : Int)) = false := decide_eq_false (by omega)
        have d2 : decide (16384 ≤ T.nodes.length) = false := decide_eq_false hge
        have HI := Lib.hid hi
        obtain ⟨i0, hi0, hz0, hz1, hz2⟩ := info_parts Try.info84
        clear hmm hi hge
        go_quiet (fail)
        clear hrun
        go_wp2
        have hwx : ∃ wx : World, wx = w2.drewN nq := ⟨_, rfl⟩
        obtain ⟨wx, hwx⟩ := hwx
        have HT2 : Hid (Tb B0 wx p m A c' T) := by rw [hwx]; exact HT2.out.drewN nq
        have HBW : Hid (Below w.heap.size w wx) := by rw [hwx]; exact below_drewN HBW.out nq
        have hKlt : Hid (w.heap.size < wx.heap.size) := by rw [hwx]; exact hKlt.out
        have HK2 : Hid (wx.heap[w.heap.size]? = some (.cells #[.int .i64 op, .int .i64 v, .int .i64 a, .int .i64 b, .int .i64 c] 84 (0, 0))) := by rw [hwx]; exact HK2.out
        have kc1 := HT2.out.cell1
        have kc2 := HT2.out.cell2
        have kk : wx.cell? ⟨w.heap.size, 0, none⟩ = some (.int .i64 op) ∧ wx.cell? ⟨w.heap.size, 1, none⟩ = some (.int .i64 v) ∧ wx.cell? ⟨w.heap.size, 2, none⟩ = some (.int .i64 a) ∧ wx.cell? ⟨w.heap.size, 3, none⟩ = some (.int .i64 b) ∧ wx.cell? ⟨w.heap.size, 4, none⟩ = some (.int .i64 c) := by
          have := HK2.out; exact ⟨by simp [World.cell?, this], by simp [World.cell?, this], by simp [World.cell?, this], by simp [World.cell?, this], by simp [World.cell?, this]⟩
        have hown2 := HT2.out.own
        rw [← hwx]
        clear hwx k0 k1 k2 k3 k4
        obtain ⟨k0, k1, k2, k3, k4⟩ := kk
        have AL : Hid (∀ (q : Addr) (u : Value), wx.cell? q = some u → ((wx.alloc (.cells #[.int .i64 op, .int .i64 v, .int .i64 a, .int .i64 b, .int .i64 c] 84)).drew).cell? q = some u) := fun q u h => (World.cell?_alloc_lt wx _ q (World.block_lt_of_cell? wx q h)).trans h
        refine wp_region_G [11, 12, 16, 17, 19] [(4, fun w' => w'.cell? ⟨p, 2, none⟩ = some (.map (some m))), (5, fun w' => w'.cell? ⟨w.heap.size, 0, none⟩ = some (.int .i64 op) ∧ w'.cell? ⟨w.heap.size, 1, none⟩ = some (.int .i64 v) ∧ w'.cell? ⟨w.heap.size, 2, none⟩ = some (.int .i64 a) ∧ w'.cell? ⟨w.heap.size, 3, none⟩ = some (.int .i64 b) ∧ w'.cell? ⟨w.heap.size, 4, none⟩ = some (.int .i64 c)), (9, fun w' => w'.cell? ⟨p, 1, none⟩ = some (.slice A T.nodes.length c')), (10, fun w' => w'.cell? ⟨w.heap.size, 0, none⟩ = some (.int .i64 op) ∧ w'.cell? ⟨w.heap.size, 1, none⟩ = some (.int .i64 v) ∧ w'.cell? ⟨w.heap.size, 2, none⟩ = some (.int .i64 a) ∧ w'.cell? ⟨w.heap.size, 3, none⟩ = some (.int .i64 b) ∧ w'.cell? ⟨w.heap.size, 4, none⟩ = some (.int .i64 c))] (by kernel_rfl) ?_
        refine wpG_take (i := 0) (v := ?_) rfl (by kernel_rfl) rfl (by kernel_rfl) (by kernel_rfl) (fun _ _ _ h => h) (by rfl) ?_ (asks_none rfl _) ?_
        rotate_left
        · intro w _; go_simp; rfl
        simp only [Act.put, List.getElem_toArray, List.getElem_cons_zero, List.getElem_cons_succ, List.setIfInBounds_toArray, List.set_cons_zero, List.set_cons_succ]
        refine wpG_take (i := 1) (v := ?_) rfl (by kernel_rfl) rfl (by kernel_rfl) (by kernel_rfl) (fun _ _ _ h => h) (by rfl) ?_ (asks_none rfl _) ?_
        rotate_left
        · intro w _; go_simp; rfl
        simp only [Act.put, List.getElem_toArray, List.getElem_cons_zero, List.getElem_cons_succ, List.setIfInBounds_toArray, List.set_cons_zero, List.set_cons_succ]
        refine wpG_take (i := 2) (v := ?_) rfl (by kernel_rfl) rfl (by kernel_rfl) (by kernel_rfl) (fun _ _ _ h => h) (by rfl) ?_ (asks_none rfl _) ?_
        rotate_left
        · intro w _; go_simp; rfl
        simp only [Act.put, List.getElem_toArray, List.getElem_cons_zero, List.getElem_cons_succ, List.setIfInBounds_toArray, List.set_cons_zero, List.set_cons_succ]
        refine wpG_take (i := 3) (v := ?_) rfl (by kernel_rfl) rfl (by kernel_rfl) (by kernel_rfl) (fun _ _ _ h => h) (by rfl) ?_ (asks_none rfl _) ?_
        rotate_left
        · intro w _; go_simp; rfl
        simp only [Act.put, List.getElem_toArray, List.getElem_cons_zero, List.getElem_cons_succ, List.setIfInBounds_toArray, List.set_cons_zero, List.set_cons_succ]
        refine wpG_take (i := 4) (v := ?_) rfl (by kernel_rfl) rfl (by kernel_rfl) (by kernel_rfl) (fun _ _ _ h => h) (by rfl) ?_ (by simp [asksOf]; exact kc2) ?_
        rotate_left
        · intro w hw; simp [asksOf] at hw; go_simp; rfl
        simp only [Act.put, List.getElem_toArray, List.getElem_cons_zero, List.getElem_cons_succ, List.setIfInBounds_toArray, List.set_cons_zero, List.set_cons_succ]
        refine wpG_take (i := 5) (v := ?_) rfl (by kernel_rfl) rfl (by kernel_rfl) (by kernel_rfl) (fun _ _ _ h => h) (by rfl) ?_ (by simp [asksOf]; exact ⟨k0, k1, k2, k3, k4⟩) ?_
        rotate_left
        · intro w hw; simp [asksOf] at hw; obtain ⟨hw0, hw1, hwx, hw3, hw4⟩ := hw; go_simp; rfl
        simp only [Act.put, List.getElem_toArray, List.getElem_cons_zero, List.getElem_cons_succ, List.setIfInBounds_toArray, List.set_cons_zero, List.set_cons_succ]
        refine wpG_take (i := 6) (v := ?_) rfl (by kernel_rfl) rfl (by kernel_rfl) (by kernel_rfl) (fun _ _ _ h => h) (by rfl) ?_ (asks_none rfl _) ?_
        rotate_left
        · intro w _; go_simp; rfl
        simp only [Act.put, List.getElem_toArray, List.getElem_cons_zero, List.getElem_cons_succ, List.setIfInBounds_toArray, List.set_cons_zero, List.set_cons_succ]
        refine wpG_take (i := 7) (v := ?_) rfl (by kernel_rfl) rfl (by kernel_rfl) (by kernel_rfl) (fun _ _ _ h => h) (by rfl) ?_ (asks_none rfl _) ?_
        rotate_left
        · intro w _; go_simp; rfl
        simp only [Act.put, List.getElem_toArray, List.getElem_cons_zero, List.getElem_cons_succ, List.setIfInBounds_toArray, List.set_cons_zero, List.set_cons_succ]
        refine wpG_take (i := 8) (v := ?_) rfl (by kernel_rfl) rfl (by kernel_rfl) (by kernel_rfl) (fun _ _ _ h => h) (by rfl) ?_ (asks_none rfl _) ?_
        rotate_left
        · intro w _; go_simp; rfl
        simp only [Act.put, List.getElem_toArray, List.getElem_cons_zero, List.getElem_cons_succ, List.setIfInBounds_toArray, List.set_cons_zero, List.set_cons_succ]
        refine wpG_take (i := 9) (v := ?_) rfl (by kernel_rfl) rfl (by kernel_rfl) (by kernel_rfl) (fun _ _ _ h => h) (by rfl) ?_ (by simp [asksOf]; exact kc1) ?_
        rotate_left
        · intro w hw; simp [asksOf] at hw; go_simp; rfl
        simp only [Act.put, List.getElem_toArray, List.getElem_cons_zero, List.getElem_cons_succ, List.setIfInBounds_toArray, List.set_cons_zero, List.set_cons_succ]
        refine wpG_take (i := 10) (v := ?_) rfl (by kernel_rfl) rfl (by kernel_rfl) (by kernel_rfl) (fun _ _ _ h => h) (by rfl) ?_ (by simp [asksOf]; exact ⟨k0, k1, k2, k3, k4⟩) ?_
        rotate_left
        · intro w hw; simp [asksOf] at hw; obtain ⟨hw0, hw1, hwx, hw3, hw4⟩ := hw; go_simp; rfl
        simp only [Act.put, List.getElem_toArray, List.getElem_cons_zero, List.getElem_cons_succ, List.setIfInBounds_toArray, List.set_cons_zero, List.set_cons_succ]
        refine wpG_take (i := 13) (v := ?_) rfl (by kernel_rfl) rfl (by kernel_rfl) (by kernel_rfl) (fun _ _ _ h => h) (by rfl) ?_ (asks_none rfl _) ?_
        rotate_left
        · intro w _; go_simp; rfl
        simp only [Act.put, List.getElem_toArray, List.getElem_cons_zero, List.getElem_cons_succ, List.setIfInBounds_toArray, List.set_cons_zero, List.set_cons_succ]
        refine wpG_loud (i := 11) rfl rfl rfl (by kernel_rfl) (fun K hK => ?_)
        go_simp
        refine hK _ _ ?_ ?_
        · intro q hq hwt; simp only [List.mem_cons, List.not_mem_nil, or_false] at hq; rcases hq with rfl | rfl | rfl | rfl
          · exact AL.out _ _ kc2
          · exact ⟨AL.out _ _ k0, AL.out _ _ k1, AL.out _ _ k2, AL.out _ _ k3, AL.out _ _ k4⟩
          · exact AL.out _ _ kc1
          · exact Bool.noConfusion (hwt.symm.trans (show _ = true from by kernel_rfl))
        clear hK K
        try simp only [Act.put, List.getElem_toArray, List.getElem_cons_zero, List.getElem_cons_succ, List.setIfInBounds_toArray, List.set_cons_zero, List.set_cons_succ]
        refine wpG_loud (i := 12) rfl rfl rfl (by kernel_rfl) (fun K hK => ?_)
        refine wp_append_lies _ _ _ _ (by rfl) B0 84 i0 _ 5 40 Try.underlying62 hi0 hz0 hz1 hz2 rfl (by omega) _ _ _ (by rfl) ((hown2.alloc _).drew) ⟨wx.heap.size, 0, none⟩ 1 1 [.int .i64 op, .int .i64 v, .int .i64 a, .int .i64 b, .int .i64 c] (by rfl) rfl (World.news_of_block (cs := #[.int .i64 op, .int .i64 v, .int .i64 a, .int .i64 b, .int .i64 c]) (t := 84) (fr := (0, 0)) (heap_alloc_new wx _)) (by simp [Value.oneCell']) (by omega) ?b1 ?b2 ?b3 (wx.heap.size + 1) (by simp) ?_
        case b1 => unfold maxLen; have := hgl.out; omega
        case b2 => have := hgl.out; omega
        case b3 => simp; have := HBW.out.size; omega
        intro G cap w3 hown3 hgrow hat hlt
        obtain ⟨⟨hp3, hK3⟩, hme, hes, hfin⟩ := make_push (t := ⟨op, v, a, b, c⟩) (K := w.heap.size) ((HT2.out.below (below_alloc wx (.cells #[.int .i64 op, .int .i64 v, .int .i64 a, .int .i64 b, .int .i64 c] 84))).drewN 1) OKS.out OKT.out HI.out hgrow hown3 (by rcases hat with h | h; exact .inl h; exact .inr (by rw [h]; simp)) ((Below.heap_alloc wx _ _ hKlt.out).trans HK2.out) hKA.out
        have HFIN := Lib.hid hfin
        have q1 : w3.cell? ⟨p, 1, none⟩ = some (.slice A T.nodes.length c') := by simp [World.cell?, hp3]
        have q2 : w3.cell? ⟨p, 2, none⟩ = some (.map (some m)) := by simp [World.cell?, hp3]
        have r0 : w3.cell? ⟨w.heap.size, 0, none⟩ = some (.int .i64 op) := by simp [World.cell?, hK3, tcell]
        have r1 : w3.cell? ⟨w.heap.size, 1, none⟩ = some (.int .i64 v) := by simp [World.cell?, hK3, tcell]
        have r2 : w3.cell? ⟨w.heap.size, 2, none⟩ = some (.int .i64 a) := by simp [World.cell?, hK3, tcell]
        have r3 : w3.cell? ⟨w.heap.size, 3, none⟩ = some (.int .i64 b) := by simp [World.cell?, hK3, tcell]
        have r4 : w3.cell? ⟨w.heap.size, 4, none⟩ = some (.int .i64 c) := by simp [World.cell?, hK3, tcell]
        have qf : w3.frozen? ⟨p, 1, none⟩ = false := by simp [World.frozen?, hp3]
        unfold tagg at hme hes
        clear hfin hp3 hK3 hat
        refine hK _ _ ?_ ?_
        · intro q hq hwt; simp only [List.mem_cons, List.not_mem_nil, or_false] at hq; rcases hq with rfl | rfl | rfl | rfl
          · exact q2
          · exact ⟨r0, r1, r2, r3, r4⟩
          · exact Bool.noConfusion (hwt.symm.trans (show _ = true from by kernel_rfl))
          · exact ⟨r0, r1, r2, r3, r4⟩
        clear hK K
        try simp only [Act.put, List.getElem_toArray, List.getElem_cons_zero, List.getElem_cons_succ, List.setIfInBounds_toArray, List.set_cons_zero, List.set_cons_succ]
        refine wpG_take (i := 14) (v := ?_) rfl (by kernel_rfl) rfl (by kernel_rfl) (by kernel_rfl) (fun _ _ _ h => h) (by rfl) ?_ (asks_none rfl _) ?_
        rotate_left
        · intro w _; go_simp; rfl
        simp only [Act.put, List.getElem_toArray, List.getElem_cons_zero, List.getElem_cons_succ, List.setIfInBounds_toArray, List.set_cons_zero, List.set_cons_succ]
        refine wpG_take (i := 15) (v := ?_) rfl (by kernel_rfl) rfl (by kernel_rfl) (by kernel_rfl) (fun _ _ _ h => h) (by rfl) ?_ (asks_none rfl _) ?_
        rotate_left
        · intro w _; go_simp; rfl
        simp only [Act.put, List.getElem_toArray, List.getElem_cons_zero, List.getElem_cons_succ, List.setIfInBounds_toArray, List.set_cons_zero, List.set_cons_succ]
        refine wpG_loud (i := 16) rfl rfl rfl (by kernel_rfl) (fun K hK => ?_)
        go_simp
        refine hK _ _ ?_ ?_
        · intro q hq hwt; simp only [List.mem_cons, List.not_mem_nil, or_false] at hq; rcases hq with rfl | rfl | rfl | rfl
          · exact Bool.noConfusion (hwt.symm.trans (show _ = true from by kernel_rfl))
          · exact ⟨(World.cell?_setCell_other w3 _ _ _ (by first | (simp; done) | (simp; exact fun e => HPK.out e.symm))).trans r0, (World.cell?_setCell_other w3 _ _ _ (by first | (simp; done) | (simp; exact fun e => HPK.out e.symm))).trans r1, (World.cell?_setCell_other w3 _ _ _ (by first | (simp; done) | (simp; exact fun e => HPK.out e.symm))).trans r2, (World.cell?_setCell_other w3 _ _ _ (by first | (simp; done) | (simp; exact fun e => HPK.out e.symm))).trans r3, (World.cell?_setCell_other w3 _ _ _ (by first | (simp; done) | (simp; exact fun e => HPK.out e.symm))).trans r4⟩
          · exact Bool.noConfusion (hwt.symm.trans (show _ = true from by kernel_rfl))
          · exact Bool.noConfusion (hwt.symm.trans (show _ = true from by kernel_rfl))
        clear hK K
        try simp only [Act.put, List.getElem_toArray, List.getElem_cons_zero, List.getElem_cons_succ, List.setIfInBounds_toArray, List.set_cons_zero, List.set_cons_succ]
        refine wpG_loud (i := 17) rfl rfl rfl (by kernel_rfl) (fun K hK => ?_)
        go_simp
        refine hK _ _ ?_ ?_
        · intro q hq hwt; simp only [List.mem_cons, List.not_mem_nil, or_false] at hq; rcases hq with rfl | rfl | rfl | rfl
          · exact Bool.noConfusion (hwt.symm.trans (show _ = true from by kernel_rfl))
          · exact Bool.noConfusion (hwt.symm.trans (show _ = true from by kernel_rfl))
          · exact Bool.noConfusion (hwt.symm.trans (show _ = true from by kernel_rfl))
          · exact Bool.noConfusion (hwt.symm.trans (show _ = true from by kernel_rfl))
        clear hK K
        try simp only [Act.put, List.getElem_toArray, List.getElem_cons_zero, List.getElem_cons_succ, List.setIfInBounds_toArray, List.set_cons_zero, List.set_cons_succ]
        refine wpG_take (i := 18) (v := ?_) rfl (by kernel_rfl) rfl (by kernel_rfl) (by kernel_rfl) (fun _ _ _ h => h) (by rfl) ?_ (asks_none rfl _) ?_
        rotate_left
        · intro w _; go_simp; rfl
        simp only [Act.put, List.getElem_toArray, List.getElem_cons_zero, List.getElem_cons_succ, List.setIfInBounds_toArray, List.set_cons_zero, List.set_cons_succ]
        refine wpG_loud (i := 19) rfl rfl rfl (by kernel_rfl) (fun K hK => ?_)
        go_simp
        refine hK _ _ ?_ ?_
        · intro q hq hwt; simp only [List.mem_cons, List.not_mem_nil, or_false] at hq; rcases hq with rfl | rfl | rfl | rfl
          · exact Bool.noConfusion (hwt.symm.trans (show _ = true from by kernel_rfl))
          · exact Bool.noConfusion (hwt.symm.trans (show _ = true from by kernel_rfl))
          · exact Bool.noConfusion (hwt.symm.trans (show _ = true from by kernel_rfl))
          · exact Bool.noConfusion (hwt.symm.trans (show _ = true from by kernel_rfl))
        clear hK K
        try simp only [Act.put, List.getElem_toArray, List.getElem_cons_zero, List.getElem_cons_succ, List.setIfInBounds_toArray, List.set_cons_zero, List.set_cons_succ]
        refine wpG_done (by kernel_rfl) ?_
        go_wp2
        go_ret2
        rw [HM.out]
        have hf0 : TFr p m A w ((wx.alloc (.cells #[.int .i64 op, .int .i64 v, .int .i64 a, .int .i64 b, .int .i64 c] 84)).drewN 1) := .of_below (below_drewN (HBW.out.trans ((below_alloc _ _).mono HBW.out.size)) 1)
        refine ⟨_, _, rfl, HFIN.out.1, hf0.trans HFIN.out.2.1 (.refl _ _), ?_⟩
        exact (RowOf.refl w A).trans (by have := HBW.out.size; simp; omega) HFIN.out.2.2
end
end Go.Proofs.Ytgmcajojigedaaa
