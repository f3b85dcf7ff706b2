/- Which nodes a node consists of: plain laws, no program. -/
import Derived.Test.YtgmcajojigedaaaTh
set_option linter.unusedSimpArgs false
set_option linter.unusedVariables false
namespace Go.Proofs.Ytgmcajojigedaaa

/-- The arguments of a term. -/
def argsL (t : Tm) : List Nat := match formF t.op with
  | some ((s0, s1, s2), _) => (if s0 = -1 then [] else [t.a.toNat]) ++ ((if s1 = -1 then [] else [t.b.toNat]) ++ (if s2 = -1 then [] else [t.c.toNat]))
  | none => []
def argsAt (T : TS) (k : Nat) : List Nat := match T.nodes[k]? with
  | some t => argsL t
  | none => []
/-- The marks after j rounds of the loop that goes down from i. -/
def mK (T : TS) (i : Nat) : Nat → Nat → Bool
  | 0, x => x == i
  | j + 1, x => mK T i j x || (mK T i j (i - j) && (argsAt T (i - j)).contains x)
def mF (T : TS) (i x : Nat) : Bool := mK T i (i + 1) x
def outK (T : TS) (i : Nat) : Nat → List Int
  | 0 => []
  | j + 1 => outK T i j ++ (if mK T i j (i - j) then [((i - j : Nat) : Int)] else [])
/-- The nodes of a node, in increasing order. -/
def partsN (T : TS) (i : Nat) : List Nat := (List.range (i + 1)).filter (mF T i)

theorem argOk_node {T : TS} {s x : Int} (h : argOk T s x = true) (hs : s ≠ -1) : ∃ k t, x = (k : Nat) ∧ T.nodes[k]? = some t ∧ sortF t.op = s := by
  unfold argOk at h
  rw [if_neg hs] at h
  rcases hn : nodeAt T x with _ | t
  · rw [hn] at h; cases h
  · rw [hn] at h
    obtain ⟨k, rfl, hk⟩ := nodeAt_some hn
    exact ⟨k, t, rfl, hk, of_decide_eq_true h⟩
/-- What a term that fits has as arguments. -/
theorem fits_args_some {T : TS} {t : Tm} {s0 s1 s2 s : Int} (h : fitsT T t = true) (hf : formF t.op = some ((s0, s1, s2), s)) : argOk T s0 t.a = true ∧ argOk T s1 t.b = true ∧ argOk T s2 t.c = true ∧ t.v = 0 := by
  unfold fitsT at h
  rw [hf] at h
  simp only [Bool.and_eq_true, decide_eq_true_eq] at h
  exact ⟨h.1.1.1, h.1.1.2, h.1.2, h.2⟩
theorem args_lt {T : TS} (hw : TWf T) {k x : Nat} (h : x ∈ argsAt T k) : x < k := by
  unfold argsAt at h
  rcases hk : T.nodes[k]? with _ | t
  · rw [hk] at h; cases h
  · rw [hk] at h
    dsimp only at h
    unfold argsL at h
    rcases hf : formF t.op with _ | ⟨⟨s0, s1, s2⟩, s⟩
    · rw [hf] at h; cases h
    · rw [hf] at h
      dsimp only at h
      obtain ⟨h1, h2, h3, _⟩ := fits_args_some (hw.fit k t hk) hf
      have key : ∀ (s y : Int), argOk ⟨T.width, T.nodes.take k⟩ s y = true → x ∈ (if s = -1 then [] else [y.toNat]) → x < k := fun s y ho hx => by
        split at hx
        · cases hx
        · rename_i hs
          obtain ⟨j, t', rfl, hj, _⟩ := argOk_node ho hs
          simp at hx
          have := (List.getElem?_eq_some_iff.1 hj).1
          rw [List.length_take] at this
          omega
      rcases List.mem_append.1 h with h | h
      · exact key _ _ h1 h
      · rcases List.mem_append.1 h with h | h
        · exact key _ _ h2 h
        · exact key _ _ h3 h
section
variable {T : TS} {i : Nat}
theorem mK_mono {j x : Nat} (h : mK T i j x = true) : mK T i (j + 1) x = true := by
  rw [mK, h]; rfl
theorem mK_mono' {j x : Nat} (h : mK T i j x = true) : ∀ n, mK T i (j + n) x = true
  | 0 => h
  | n + 1 => mK_mono (mK_mono' h n)
theorem mK_step (hw : TWf T) {j x : Nat} (hx : i - j ≤ x) : mK T i (j + 1) x = mK T i j x := by
  rw [mK]
  have : (argsAt T (i - j)).contains x = false := by
    rw [Bool.eq_false_iff]
    intro h
    have := args_lt hw (List.contains_iff_mem.1 h)
    omega
  rw [this]; simp
theorem mK_stable (hw : TWf T) {j x : Nat} (hx : i - j ≤ x) : ∀ n, mK T i (j + n) x = mK T i j x
  | 0 => rfl
  | n + 1 => by
    rw [show j + (n + 1) = (j + n) + 1 from rfl, mK_step hw (by omega), mK_stable hw hx n]
theorem mF_at (hw : TWf T) {j : Nat} (hj : j ≤ i) : mF T i (i - j) = mK T i j (i - j) := by
  unfold mF
  rw [show i + 1 = j + (i + 1 - j) by omega]
  exact mK_stable hw (Nat.le_refl _) _
theorem mF_self (hw : TWf T) : mF T i i = true := by
  have := mF_at hw (i := i) (j := 0) (Nat.zero_le _)
  rw [Nat.sub_zero] at this
  rw [this]; simp [mK]
theorem mF_args (hw : TWf T) {k x : Nat} (hk : k ≤ i) (h : mF T i k = true) (hx : x ∈ argsAt T k) : mF T i x = true := by
  have e : i - (i - k) = k := by omega
  have h1 := mF_at hw (i := i) (j := i - k) (by omega)
  rw [e] at h1
  rw [h1] at h
  have h2 : mK T i (i - k + 1) x = true := by
    rw [mK, e, h, List.contains_iff_mem.2 hx]; simp
  unfold mF
  rw [show i + 1 = (i - k + 1) + (i - (i - k)) by omega]
  exact mK_mono' h2 _
theorem mK_le (hw : TWf T) : ∀ (j x : Nat), mK T i j x = true → x ≤ i
  | 0, x, h => by simp [mK] at h; omega
  | j + 1, x, h => by
    rw [mK, Bool.or_eq_true, Bool.and_eq_true] at h
    rcases h with h | ⟨_, h⟩
    · exact mK_le hw j x h
    · have := args_lt hw (List.contains_iff_mem.1 h); omega
theorem outK_filter (hw : TWf T) : ∀ j, j ≤ i + 1 → (outK T i j).reverse = (((List.range (i + 1)).drop (i + 1 - j)).filter (mF T i)).map fun k => ((k : Nat) : Int)
  | 0, _ => by rw [List.drop_of_length_le (by simp)]; rfl
  | j + 1, hj => by
    have hlt : i + 1 - (j + 1) < (List.range (i + 1)).length := by simp; omega
    rw [List.drop_eq_getElem_cons hlt, List.filter_cons, outK, List.reverse_append, outK_filter hw j (by omega), List.getElem_range]
    rw [show i + 1 - (j + 1) + 1 = i + 1 - j by omega, show i + 1 - (j + 1) = i - j by omega, mF_at hw (by omega)]
    split <;> simp
theorem outK_parts (hw : TWf T) : (outK T i (i + 1)).reverse = (partsN T i).map fun k => ((k : Nat) : Int) := by
  rw [outK_filter hw (i + 1) (Nat.le_refl _), Nat.sub_self, List.drop_zero]; rfl
end
/-! ### The list of marks -/
theorem set_range (m x : Nat) (f : Nat → Bool) : ((List.range m).map f).set x true = (List.range m).map fun y => f y || decide (y = x) := by
  apply List.ext_getElem?
  intro k
  rw [List.getElem?_set]
  by_cases hk : k < m
  · by_cases hx : x = k
    · subst hx; simp [hk]
    · have : ¬ k = x := fun h => hx h.symm
      simp [hx, this, hk]
  · by_cases hx : x = k
    · subst hx; simp [hk]
    · simp [hx, hk]
/-- The marks after n of the arguments of a node have been marked. -/
def sI (s0 s1 s2 : Int) (a b c : Int) (f : Nat → Bool) : Nat → Nat → Bool
  | 0, y => f y
  | n + 1, y => sI s0 s1 s2 a b c f n y || (decide (sAt s0 s1 s2 n ≠ -1) && decide (y = (sAt a b c n).toNat))
theorem sI_three {T : TS} {i j : Nat} {t : Tm} {s0 s1 s2 s : Int} (hk : T.nodes[i - j]? = some t) (hf : formF t.op = some ((s0, s1, s2), s)) (hm : mK T i j (i - j) = true) : ∀ y, sI s0 s1 s2 t.a t.b t.c (mK T i j) 3 y = mK T i (j + 1) y := by
  intro y
  have e : argsAt T (i - j) = (if s0 = -1 then [] else [t.a.toNat]) ++ ((if s1 = -1 then [] else [t.b.toNat]) ++ (if s2 = -1 then [] else [t.c.toNat])) := by
    unfold argsAt; rw [hk]; dsimp only; unfold argsL; rw [hf]
  rw [mK, e, hm]
  simp only [sI, sAt]
  by_cases h0 : s0 = -1 <;> by_cases h1 : s1 = -1 <;> by_cases h2 : s2 = -1 <;> simp [h0, h1, h2, Bool.or_assoc]
theorem no_form {T : TS} {i j : Nat} {t : Tm} (hk : T.nodes[i - j]? = some t) (hf : formF t.op = none) : ∀ y, mK T i (j + 1) y = mK T i j y := by
  intro y
  have e : argsAt T (i - j) = [] := by unfold argsAt; rw [hk]; dsimp only; unfold argsL; rw [hf]
  rw [mK, e]; simp
theorem no_mark {T : TS} {i j : Nat} (h : mK T i j (i - j) = false) : ∀ y, mK T i (j + 1) y = mK T i j y := by
  intro y; rw [mK, h]; simp
end Go.Proofs.Ytgmcajojigedaaa
