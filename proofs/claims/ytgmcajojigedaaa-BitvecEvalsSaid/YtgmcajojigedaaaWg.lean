/- Marks, inputs and sizes as the reference of chapter 22 counts them: plain laws. -/
import Derived.Test.YtgmcajojigedaaaTo
set_option linter.unusedSimpArgs false
set_option linter.unusedVariables false
namespace Go.Proofs.Ytgmcajojigedaaa

/-- Is a node one of the nodes of a node, if there is one? -/
def mrk (T : TS) (i : Int) (x : Nat) : Bool := match nodeAt T i with
  | some _ => mF T i.toNat x
  | none => false
def partsF (T : TS) (i : Int) : List Nat := match nodeAt T i with
  | some _ => partsN T i.toNat
  | none => []
section
variable {T : TS} {i : Int}
theorem mrk_lt (hw : TWf T) {x : Nat} (h : mrk T i x = true) : x < T.nodes.length := by
  unfold mrk at h
  rcases hn : nodeAt T i with _ | t
  · rw [hn] at h; cases h
  · rw [hn] at h
    obtain ⟨k, rfl, hk⟩ := nodeAt_some hn
    have h1 := (List.getElem?_eq_some_iff.1 hk).1
    have h2 := mK_le hw _ _ h
    simp at h2
    omega
theorem partsF_mem (hw : TWf T) {x : Nat} : x ∈ partsF T i ↔ mrk T i x = true := by
  unfold partsF mrk
  rcases hn : nodeAt T i with _ | t
  · simp
  · dsimp only
    unfold partsN
    rw [List.mem_filter, List.mem_range]
    exact ⟨fun h => h.2, fun h => ⟨by have := mK_le hw _ _ h; omega, h⟩⟩
theorem filter_range_le {f : Nat → Bool} {n m : Nat} (hnm : n ≤ m) (h : ∀ x, f x = true → x < n) : (List.range m).filter f = (List.range n).filter f := by
  induction m with
  | zero => obtain rfl : n = 0 := by omega
            rfl
  | succ m ih =>
    by_cases e : n = m + 1
    · subst e; rfl
    · rw [List.range_succ, List.filter_append, ih (by omega)]
      have : f m = false := by
        rcases hf : f m with _ | _
        · rfl
        · have := h m hf; omega
      simp [this]
theorem partsF_filter (hw : TWf T) : (List.range T.nodes.length).filter (mrk T i) = partsF T i := by
  unfold partsF
  rcases hn : nodeAt T i with _ | t
  · have : ∀ x, mrk T i x = false := fun x => by unfold mrk; rw [hn]
    rw [List.filter_eq_nil_iff]
    intro x _
    simp [this]
  · have e : ∀ x, mrk T i x = mF T i.toNat x := fun x => by unfold mrk; rw [hn]
    rw [show mrk T i = mF T i.toNat from funext e]
    obtain ⟨k, rfl, hk⟩ := nodeAt_some hn
    have h1 := (List.getElem?_eq_some_iff.1 hk).1
    simp only [Int.toNat_natCast]
    unfold partsN
    exact filter_range_le (by omega) fun x hx => by have := mK_le hw _ _ hx; omega
/-- The number of marks before k. -/
def cntK (T : TS) (i : Int) (k : Nat) : Nat := ((List.range k).filter (mrk T i)).length
theorem cntK_succ (k : Nat) : cntK T i (k + 1) = cntK T i k + (if mrk T i k then 1 else 0) := by
  unfold cntK
  rw [List.range_succ, List.filter_append, List.length_append]
  by_cases h : mrk T i k = true <;> simp [h]
theorem cntK_le (k : Nat) : cntK T i k ≤ k := by
  unfold cntK; exact Nat.le_trans (List.length_filter_le _ _) (by simp)
theorem cntK_all (hw : TWf T) : cntK T i T.nodes.length = (partsF T i).length := by unfold cntK; rw [partsF_filter hw]
/-- Is an input found among the nodes before k? -/
def fndK (T : TS) (i n : Int) (k : Nat) : Bool := (List.range k).any fun x => mrk T i x && decide (isInp T x = some n)
theorem fndK_succ (n : Int) (k : Nat) : fndK T i n (k + 1) = (fndK T i n k || (mrk T i k && decide (isInp T k = some n))) := by
  unfold fndK
  rw [List.range_succ, List.any_append]; simp
def inpK (T : TS) (i : Int) (n : Nat) : List Int := ((List.range n).filter fun (x : Nat) => fndK T i (x : Int) T.nodes.length).map fun (x : Nat) => (x : Int)
theorem inpK_succ (n : Nat) : inpK T i (n + 1) = inpK T i n ++ (if fndK T i (n : Int) T.nodes.length then [(n : Int)] else []) := by
  unfold inpK
  rw [List.range_succ, List.filter_append, List.map_append]
  by_cases h : fndK T i (n : Int) T.nodes.length = true <;> simp [h]
theorem inpK_len (n : Nat) : (inpK T i n).length ≤ n := by
  unfold inpK; rw [List.length_map]; exact Nat.le_trans (List.length_filter_le _ _) (by simp)
theorem fnd_iff (hw : TWf T) (n : Int) : fndK T i n T.nodes.length = true ↔ ∃ k ∈ partsF T i, isInp T k = some n := by
  unfold fndK
  rw [List.any_eq_true]
  constructor
  · rintro ⟨x, h1, h2⟩
    rw [Bool.and_eq_true, decide_eq_true_eq] at h2
    exact ⟨x, (partsF_mem hw).2 h2.1, h2.2⟩
  · rintro ⟨x, h1, h2⟩
    have := (partsF_mem hw).1 h1
    exact ⟨x, List.mem_range.2 (mrk_lt hw this), by rw [this, h2]; simp⟩
theorem isInp_bd (hw : TWf T) {k : Nat} {x : Int} (h : isInp T k = some x) : 0 ≤ x ∧ x < 24 := by
  unfold isInp at h
  rcases hk : T.nodes[k]? with _ | t
  · rw [hk] at h; cases h
  · rw [hk] at h
    dsimp only at h
    have hfit := hw.fit k t hk
    split at h
    · rename_i ho
      cases h
      have hf : formF t.op = none := by rcases ho with e | e <;> (rw [e]; rfl)
      rcases (fits_leaf hfit hf).2 with ⟨_, h1, h2⟩ | ⟨h, _⟩ | ⟨h, _⟩
      · exact ⟨h1, h2⟩
      · rcases ho with e | e <;> omega
      · rcases ho with e | e <;> omega
    · cases h
/-- The reference's inputs are the table's. -/
theorem inpK_all (hw : TWf T) : inpK T i 24 = inputsF T (partsF T i) := by
  refine sorted_unique ?_ (inputsF_sorted T _) fun x => ?_
  · unfold inpK
    rw [List.pairwise_map]
    exact List.Pairwise.imp (fun h => by omega) (List.Pairwise.sublist List.filter_sublist List.pairwise_lt_range)
  · rw [inputsF_mem]
    unfold inpK
    rw [List.mem_map]
    constructor
    · rintro ⟨n, h1, rfl⟩
      exact (fnd_iff hw _).1 (List.mem_filter.1 h1).2
    · rintro ⟨k, h1, h2⟩
      obtain ⟨b1, b2⟩ := isInp_bd hw h2
      refine ⟨x.toNat, List.mem_filter.2 ⟨List.mem_range.2 (by omega), ?_⟩, by omega⟩
      rw [show ((x.toNat : Nat) : Int) = x by omega]
      exact (fnd_iff hw _).2 ⟨k, h1, h2⟩
end
end Go.Proofs.Ytgmcajojigedaaa
