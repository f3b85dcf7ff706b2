/- A region that draws its order, walked in ONE order: the quiet operations first; behind each loud one only those cells are shown again that some quiet operation reads which does not wait for it. -/
import Derived.OrdersHeld
import Derived.Defers
import Derived.KernelRfl
import Derived.Laws.World
set_option linter.unusedSimpArgs false
set_option linter.unusedVariables false
namespace Go.Proofs.Ytgmcajojigedaaa

/-- Does operation j wait for operation i, by an edge of its own? -/
def waitsB (ops : Array Oper) (j i : Nat) : Bool :=
  match ops[j]? with
  | some o => o.after.any fun e => Region.binds .any e && e.on == i
  | none => false

/-- What quiet operation i asks of the world: nothing, if it is not listed. -/
def asksOf (sq : List (Nat × (World → Prop))) (i : Nat) (w : World) : Prop := ∀ p ∈ sq, p.1 = i → p.2 w
/-- What is owed behind operation j: a loud one owes what those read that do not wait for it; a quiet one leaves the world as it is. -/
def Owes (ops : Array Oper) (loud : List Nat) (sq : List (Nat × (World → Prop))) (j : Nat) (w w' : World) : Prop :=
  if loud.contains j = true then ∀ p ∈ sq, waitsB ops j p.1 = false → p.2 w' else w' = w

section
variable {P : Program} {ops : Array Oper} {Q : Exit → Act → World → Prop} {loud : List Nat} {sq : List (Nat × (World → Prop))}

def wpG (P : Program) (ops : Array Oper) (Q : Exit → Act → World → Prop) (loud : List Nat) (sq : List (Nat × (World → Prop))) : Nat → Array Bool → Act → World → Prop
  | 0, listed, a, w => Region.ready .any ops listed = [] ∧ Q .normal a w
  | fuel + 1, listed, a, w =>
    (Region.ready .any ops listed = [] → Q .normal a w) ∧
    ∀ i ∈ Region.ready .any ops listed, wpOp P ops Q i (fun a' w' => Owes ops loud sq i w w' ∧ wpG P ops Q loud sq fuel (listed.setIfInBounds i true) a' w') a w

theorem wpAny_of_wpG : ∀ (fuel : Nat) (listed : Array Bool) (a : Act) (w : World), wpG P ops Q loud sq fuel listed a w → wpAny P .any ops Q fuel listed a w
  | 0, _, _, _, h => h
  | fuel + 1, _, _, _, h => ⟨h.1, fun i hi => wpOp_mono (fun a' w' h' => wpAny_of_wpG fuel _ a' w' h'.2) (h.2 i hi)⟩

theorem wpG_first {i : Nat} {oi : Oper} {v : Value} (hi : ops[i]? = some oi) (hsel : ∀ (j : Nat) (o : Oper) cs b, ops[j]? = some o → o.op ≠ .select cs b)
    (hQ : ∀ c a w, Q (.panic c) (a.put oi.dst v) w → Q (.panic c) a w) (hq : loud.contains i = false) :
    ∀ (fuel : Nat) (listed : Array Bool) (a : Act) (w : World),
      (∀ j oj, ops[j]? = some oj → j ≠ i → listed.getD j true = false → (∀ e ∈ oj.after, Region.binds .any e = true → e.on ≠ i) → oi.apart ops oj = true) →
      i ∈ Region.ready .any ops listed → YieldsIf P ops (asksOf sq i) oi v a → asksOf sq i w →
      wpG P ops Q loud sq fuel (listed.setIfInBounds i true) (a.put oi.dst v) w → wpG P ops Q loud sq (fuel + 1) listed a w := by
  have own : ∀ w, Owes ops loud sq i w w := fun w => by unfold Owes; rw [hq]; rfl
  intro fuel
  induction fuel with
  | zero =>
    intro listed a w _ hr hy hS H
    refine ⟨fun h => (by rw [h] at hr; cases hr), fun j hj => ?_⟩
    by_cases hji : j = i
    · subst hji; exact hy.wpOp hi hS ⟨own w, H⟩
    · have h0 := ready_mono hj hji
      rw [H.1] at h0
      cases h0
  | succ fuel ih =>
    intro listed a w hfree hr hy hS H
    refine ⟨fun h => (by rw [h] at hr; cases hr), fun j hj => ?_⟩
    by_cases hji : j = i
    · subst hji; exact hy.wpOp hi hS ⟨own w, H⟩
    have h1 := H.2 j (ready_mono hj hji)
    obtain ⟨hjun, oj, hoj, hall⟩ := mem_ready.1 hj
    have hiun := (mem_ready.1 hr).1
    have hnot : ∀ e ∈ oj.after, Region.binds .any e = true → e.on ≠ i := fun e he hb heq => by
      have h2 := hall e he hb
      rw [heq] at h2
      rcases Nat.lt_or_ge i listed.size with h' | h'
      · simp [h'] at hiun h2; rw [hiun] at h2; cases h2
      · simp [Array.getElem?_eq_none h'] at h2
    have hw : waitsB ops j i = false := by
      unfold waitsB
      rw [hoj, Bool.eq_false_iff]
      intro ht
      obtain ⟨e, he, hb⟩ := Array.any_eq_true'.1 ht
      simp only [Bool.and_eq_true, beq_iff_eq] at hb
      exact hnot e he hb.1 hb.2
    have h2 := wpOp_putIf hoj (hfree j oj hoj hji hjun hnot) (fun cs b => hsel i oi cs b hi) (fun cs b => hsel j oj cs b hoj) hQ hy h1
    have hfree' : ∀ k ok, ops[k]? = some ok → k ≠ i → (listed.setIfInBounds j true).getD k true = false →
        (∀ e ∈ ok.after, Region.binds .any e = true → e.on ≠ i) → oi.apart ops ok = true := fun k ok hk hki hun hno => by
      refine hfree k ok hk hki ?_ hno
      by_cases hjk : j = k
      · subst hjk; exact hjun
      · rw [getD_set_ne true hjk] at hun; exact hun
    refine wpOp_mono (fun a' w' h3 => ?_) h2
    obtain ⟨hy', ho, hrest⟩ := h3
    refine ⟨ho, ih (listed.setIfInBounds j true) a' w' hfree' (ready_mono hr (Ne.symm hji)) hy' ?_ (by rw [Array.setIfInBounds_comm _ _ hji]; exact hrest)⟩
    unfold Owes at ho
    by_cases hl : loud.contains j = true
    · rw [if_pos hl] at ho
      exact fun p hp hpi => ho p hp (by rw [hpi]; exact hw)
    · rw [if_neg hl] at ho
      subst ho
      exact hS

/-- Take quiet operation number i first. -/
theorem wpG_take {i : Nat} {oi : Oper} {v : Value} {fuel : Nat} {listed : Array Bool} {a : Act} {w : World} (hi : ops[i]? = some oi)
    (hs : Region.noSelect ops = true) (hq : loud.contains i = false) (hf : Region.free .any ops listed i = true) (hr : (Region.ready .any ops listed).contains i = true)
    (hQ : ∀ c a w, Q (.panic c) (a.put oi.dst v) w → Q (.panic c) a w) (hg : Region.wanted oi (yielded ops a.tmps) = true)
    (hy : ∀ w, asksOf sq i w → (execOp a.eval oi).run P w = .ok (.value v) w) (hS : asksOf sq i w)
    (h : wpG P ops Q loud sq fuel (listed.setIfInBounds i true) (a.put oi.dst v) w) : wpG P ops Q loud sq (fuel + 1) listed a w :=
  wpG_first hi (Region.noSelect_spec hs) hQ hq fuel listed a w (Region.free_spec hi hf) (by simpa using hr) (.inl ⟨hg, hy⟩) hS h
/-- A quiet operation whose guard says no. -/
theorem wpG_pass {i : Nat} {oi : Oper} {fuel : Nat} {listed : Array Bool} {a : Act} {w : World} (hi : ops[i]? = some oi)
    (hs : Region.noSelect ops = true) (hq : loud.contains i = false) (hf : Region.free .any ops listed i = true) (hr : (Region.ready .any ops listed).contains i = true)
    (hQ : ∀ c a w, Q (.panic c) (a.put oi.dst undef) w → Q (.panic c) a w) (hg : Region.wanted oi (yielded ops a.tmps) = false) (hS : asksOf sq i w)
    (h : wpG P ops Q loud sq fuel (listed.setIfInBounds i true) (a.put oi.dst undef) w) : wpG P ops Q loud sq (fuel + 1) listed a w :=
  wpG_first hi (Region.noSelect_spec hs) hQ hq fuel listed a w (Region.free_spec hi hf) (by simpa using hr) (.inr ⟨hg, rfl⟩) hS h
/-- A loud operation: the only one that may come up now. -/
theorem wpG_loud {i : Nat} {oi : Oper} {fuel : Nat} {listed : Array Bool} {a : Act} {w : World} (hi : ops[i]? = some oi) (hg : Region.wanted oi (yielded ops a.tmps) = true) (hl : loud.contains i = true)
    (hr : Region.ready .any ops listed = [i]) (h : ∀ K : Act → World → Prop, (∀ a' w', (∀ p ∈ sq, waitsB ops i p.1 = false → p.2 w') → wpG P ops Q loud sq fuel (listed.setIfInBounds i true) a' w' → K a' w') → oi.wp P a w K Q) :
    wpG P ops Q loud sq (fuel + 1) listed a w := by
  refine ⟨fun h0 => (by rw [h0] at hr; cases hr), fun j hj => ?_⟩
  rw [hr, List.mem_singleton] at hj
  subst hj
  unfold wpOp
  simp only [hi]
  rw [if_pos hg]
  exact .inl (h _ fun a' w' ho hrest => ⟨by unfold Owes; rw [if_pos hl]; exact ho, hrest⟩)
theorem wpG_done {listed : Array Bool} {a : Act} {w : World} (hr : Region.ready .any ops listed = []) (h : Q .normal a w) : wpG P ops Q loud sq 0 listed a w := ⟨hr, h⟩
theorem asks_none {i : Nat} (h : (sq.map (·.1)).contains i = false) (w : World) : asksOf sq i w := fun p hp hpi => by
  rw [Bool.eq_false_iff] at h
  exact absurd (by rw [← hpi]; simp only [List.contains_iff_mem]; exact List.mem_map_of_mem hp) h
/-- The beginning. -/
theorem wp_region_G (loud : List Nat) (sq : List (Nat × (World → Prop))) {id : Nat} {a : Act} {w : World} (hm : P.follows .mixedOrders = true)
    (h : wpG P ops Q loud sq ops.size (Array.replicate ops.size false) a w.drew) : (Code.region id ops true).wp P Q a w :=
  wp_region_any hm (wpAny_of_wpG _ _ _ _ h)
end
end Go.Proofs.Ytgmcajojigedaaa
