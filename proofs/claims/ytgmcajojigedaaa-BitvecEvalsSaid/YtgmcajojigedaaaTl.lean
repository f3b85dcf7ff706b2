/- The values of the nodes of a table: plain laws. The walk of the table's Eval. -/
import Derived.Test.YtgmcajojigedaaaTk
set_option linter.unusedSimpArgs false
set_option linter.unusedVariables false
namespace Go.Proofs.Ytgmcajojigedaaa

def leafV (wd : Int) (inp : List Int) (t : Tm) : Option Int :=
  if (inp.length : Int) ≤ t.v then none
  else if t.op = 0 ∧ wrapW wd (inp.getD t.v.toNat 0) ≠ inp.getD t.v.toNat 0 then none
  else if t.op = 1 ∧ inp.getD t.v.toNat 0 ≠ 0 ∧ inp.getD t.v.toNat 0 ≠ 1 then none
  else some (inp.getD t.v.toNat 0)
def argV (vs : Nat → Option Int) (s x : Int) : Option Int := if s = -1 then some 0 else vs x.toNat
def nodeV (wd : Int) (inp : List Int) (vs : Nat → Option Int) (t : Tm) : Option Int :=
  match formF t.op with
  | some ((s0, s1, s2), _) => (argV vs s0 t.a).bind fun a => (argV vs s1 t.b).bind fun b => (argV vs s2 t.c).bind fun c => some (opV wd t.op a b c)
  | none => if t.op = 0 ∨ t.op = 1 then leafV wd inp t else some t.v
def vF (T : TS) (inp : List Int) : Nat → Nat → Option Int
  | 0, _ => none
  | k + 1, x => if x = k then (match T.nodes[k]? with | some t => nodeV T.width inp (vF T inp k) t | none => none) else vF T inp k x
/-- The value of a node. -/
def vAt (T : TS) (inp : List Int) (k : Nat) : Option Int := vF T inp (k + 1) k
section
variable {T : TS} {inp : List Int} {i : Nat}
theorem vF_at : ∀ (m x : Nat), x < m → vF T inp m x = vAt T inp x
  | 0, _, h => by omega
  | m + 1, x, h => by
    by_cases e : x = m
    · subst e; rfl
    · rw [vF, if_neg e]; exact vF_at m x (by omega)
theorem vAt_eq {k : Nat} {t : Tm} (hk : T.nodes[k]? = some t) : vAt T inp k = nodeV T.width inp (vF T inp k) t := by
  unfold vAt; rw [vF, if_pos rfl, hk]
theorem argV_eq (hw : TWf T) {k : Nat} {t : Tm} (hk : T.nodes[k]? = some t) {s x : Int} (h : argOk ⟨T.width, T.nodes.take k⟩ s x = true) : argV (vF T inp k) s x = argV (vAt T inp) s x := by
  unfold argV
  split
  · rfl
  · rename_i hs
    obtain ⟨j, t', rfl, hj, _⟩ := argOk_node h hs
    have := (List.getElem?_eq_some_iff.1 hj).1
    rw [List.length_take] at this
    exact vF_at _ _ (by rw [Int.toNat_natCast]; omega)
theorem vAt_op (hw : TWf T) {k : Nat} {t : Tm} (hk : T.nodes[k]? = some t) {s0 s1 s2 s : Int} (hf : formF t.op = some ((s0, s1, s2), s)) :
    vAt T inp k = (argV (vAt T inp) s0 t.a).bind fun a => (argV (vAt T inp) s1 t.b).bind fun b => (argV (vAt T inp) s2 t.c).bind fun c => some (opV T.width t.op a b c) := by
  obtain ⟨h0, h1, h2, _⟩ := fits_args_some (hw.fit k t hk) hf
  rw [vAt_eq hk, nodeV, hf]
  dsimp only
  rw [argV_eq hw hk h0, argV_eq hw hk h1, argV_eq hw hk h2]
theorem vAt_leaf {k : Nat} {t : Tm} (hk : T.nodes[k]? = some t) (hf : formF t.op = none) : vAt T inp k = if t.op = 0 ∨ t.op = 1 then leafV T.width inp t else some t.v := by
  rw [vAt_eq hk, nodeV, hf]
theorem arg_mem {k x : Nat} (h : x ∈ argsAt T k) : ∃ t s0 s1 s2 s, T.nodes[k]? = some t ∧ formF t.op = some ((s0, s1, s2), s) ∧ ((s0 ≠ -1 ∧ x = t.a.toNat) ∨ (s1 ≠ -1 ∧ x = t.b.toNat) ∨ (s2 ≠ -1 ∧ x = t.c.toNat)) := by
  unfold argsAt at h
  rcases hk : T.nodes[k]? with _ | t
  · rw [hk] at h; cases h
  · rw [hk] at h
    dsimp only at h
    unfold argsL at h
    rcases hf : formF t.op with _ | ⟨⟨s0, s1, s2⟩, s⟩
    · rw [hf] at h; cases h
    · rw [hf] at h
      dsimp only at h
      have key : ∀ (s y : Int), x ∈ (if s = -1 then [] else [y.toNat]) → s ≠ -1 ∧ x = y.toNat := fun s y hx => by
        split at hx
        · cases hx
        · rename_i hs; simp at hx; exact ⟨hs, hx⟩
      refine ⟨t, s0, s1, s2, s, rfl, hf, ?_⟩
      rcases List.mem_append.1 h with h | h
      · exact .inl (key _ _ h)
      · rcases List.mem_append.1 h with h | h
        · exact .inr (.inl (key _ _ h))
        · exact .inr (.inr (key _ _ h))
theorem vAt_arg_none (hw : TWf T) {k x : Nat} (hx : x ∈ argsAt T k) (hn : vAt T inp x = none) : vAt T inp k = none := by
  obtain ⟨t, s0, s1, s2, s, hk, hf, h⟩ := arg_mem hx
  rw [vAt_op hw hk hf]
  rcases h with ⟨hs, rfl⟩ | ⟨hs, rfl⟩ | ⟨hs, rfl⟩
  · rw [show argV (vAt T inp) s0 t.a = none from by unfold argV; rw [if_neg hs]; exact hn]; rfl
  · rw [show argV (vAt T inp) s1 t.b = none from by unfold argV; rw [if_neg hs]; exact hn]
    cases argV (vAt T inp) s0 t.a <;> rfl
  · rw [show argV (vAt T inp) s2 t.c = none from by unfold argV; rw [if_neg hs]; exact hn]
    cases argV (vAt T inp) s0 t.a <;> cases argV (vAt T inp) s1 t.b <;> rfl
theorem vAt_fail (hw : TWf T) : ∀ (j x : Nat), mK T i j x = true → vAt T inp x = none → vAt T inp i = none
  | 0, x, h, hn => by simp [mK] at h; subst h; exact hn
  | j + 1, x, h, hn => by
    rw [mK, Bool.or_eq_true, Bool.and_eq_true] at h
    rcases h with h | ⟨h1, h2⟩
    · exact vAt_fail hw j x h hn
    · exact vAt_fail hw j _ h1 (vAt_arg_none hw (List.contains_iff_mem.1 h2) hn)

/-! ### The sorts of values -/
def okV (wd s v : Int) : Prop := (s = 0 → inW wd v) ∧ (s = 1 → v = 0 ∨ v = 1)
theorem okV_bd {wd s v : Int} (h : okV wd s v) (hs : s = 0 ∨ s = 1) : -128 ≤ v ∧ v ≤ 128 := by
  rcases hs with rfl | rfl
  · have := h.1 rfl
    have h2 := wrapW_small wd v
    rw [wrapW_of_in this] at h2
    omega
  · have := h.2 rfl; omega
theorem bI_01 (b : Bool) : bI b = 0 ∨ bI b = 1 := by cases b <;> simp [bI]
theorem quoW_any {wd : Int} (h1 : 2 ≤ wd) (h2 : wd ≤ 8) (x y : Int) : inW wd (quoW wd x y) := by
  unfold quoW
  split
  · have := wrapW_in 0 h1 h2; rwa [wrapW_zero] at this
  · exact wrapW_in _ h1 h2
theorem remW_any {wd : Int} (h1 : 2 ≤ wd) (h2 : wd ≤ 8) (x y : Int) : inW wd (remW wd x y) := by
  unfold remW
  split
  · exact wrapW_in _ h1 h2
  · exact tmod_in (wrapW_in _ h1 h2)
theorem formF_cases {op : Int} {f : (Int × Int × Int) × Int} (h : formF op = some f) :
    (op = 4 ∧ f = ((0, -1, -1), 0)) ∨ ((op = 5 ∨ op = 6 ∨ op = 7 ∨ op = 8 ∨ op = 9) ∧ f = ((0, 0, -1), 0)) ∨ (op = 10 ∧ f = ((1, 0, 0), 0)) ∨ (op = 11 ∧ f = ((1, -1, -1), 1)) ∨
    ((op = 12 ∨ op = 13 ∨ op = 14) ∧ f = ((1, 1, -1), 1)) ∨ (op = 15 ∧ f = ((1, 1, 1), 1)) ∨ ((op = 16 ∨ op = 17) ∧ f = ((0, 0, -1), 1)) := by
  obtain ⟨h1, h2⟩ := formF_lt h
  obtain rfl | rfl | rfl | rfl | rfl | rfl | rfl | rfl | rfl | rfl | rfl | rfl | rfl | rfl : op = 4 ∨ op = 5 ∨ op = 6 ∨ op = 7 ∨ op = 8 ∨ op = 9 ∨ op = 10 ∨ op = 11 ∨ op = 12 ∨ op = 13 ∨ op = 14 ∨ op = 15 ∨ op = 16 ∨ op = 17 := by omega
  all_goals (have := Option.some.inj (h.symm.trans (by rfl : formF _ = some _)); subst this; simp)
theorem formF_sort {op : Int} {a : Int × Int × Int} {s : Int} (h : formF op = some (a, s)) : sortF op = s := by
  have h1 := formF_lt h
  unfold sortF
  rw [if_neg (by omega), h]
/-- The value of an operator has its sort. -/
theorem opV_ok {wd : Int} (h1 : 2 ≤ wd) (h2 : wd ≤ 8) {op s0 s1 s2 s a b c : Int} (hf : formF op = some ((s0, s1, s2), s)) (ha : okV wd s0 a) (hb : okV wd s1 b) (hc : okV wd s2 c) : okV wd s (opV wd op a b c) := by
  rcases formF_cases hf with ⟨rfl, h⟩ | ⟨h', h⟩ | ⟨rfl, h⟩ | ⟨rfl, h⟩ | ⟨h', h⟩ | ⟨rfl, h⟩ | ⟨h', h⟩
  all_goals (simp only [Prod.mk.injEq] at h; obtain ⟨⟨rfl, rfl, rfl⟩, rfl⟩ := h)
  · exact ⟨fun _ => wrapW_in _ h1 h2, fun h => by omega⟩
  · refine ⟨fun _ => ?_, fun h => by omega⟩
    rcases h' with rfl | rfl | rfl | rfl | rfl
    · exact wrapW_in _ h1 h2
    · exact wrapW_in _ h1 h2
    · exact wrapW_in _ h1 h2
    · exact quoW_any h1 h2 _ _
    · exact remW_any h1 h2 _ _
  · refine ⟨fun _ => ?_, fun h => by omega⟩
    show inW wd (if a = 1 then b else c)
    split
    · exact hb.1 rfl
    · exact hc.1 rfl
  · refine ⟨fun h => by omega, fun _ => ?_⟩
    show 1 - a = 0 ∨ 1 - a = 1
    have := ha.2 rfl; omega
  · refine ⟨fun h => by omega, fun _ => ?_⟩
    rcases h' with rfl | rfl | rfl <;> exact bI_01 _
  · refine ⟨fun h => by omega, fun _ => ?_⟩
    show (if a = 1 then b else c) = 0 ∨ (if a = 1 then b else c) = 1
    have := hb.2 rfl
    have := hc.2 rfl
    split <;> assumption
  · refine ⟨fun h => by omega, fun _ => ?_⟩
    rcases h' with rfl | rfl <;> exact bI_01 _
/-- What an operator does not need does not matter. -/
theorem opV_need {wd op s0 s1 s2 s a b c b' c' : Int} (hf : formF op = some ((s0, s1, s2), s)) (hb : s1 ≠ -1 → b = b') (hc : s2 ≠ -1 → c = c') : opV wd op a b c = opV wd op a b' c' := by
  rcases formF_cases hf with ⟨rfl, h⟩ | ⟨h', h⟩ | ⟨rfl, h⟩ | ⟨rfl, h⟩ | ⟨h', h⟩ | ⟨rfl, h⟩ | ⟨h', h⟩
  all_goals (simp only [Prod.mk.injEq] at h; obtain ⟨⟨rfl, rfl, rfl⟩, rfl⟩ := h)
  · rfl
  · rw [hb (by omega)]; rcases h' with rfl | rfl | rfl | rfl | rfl <;> rfl
  · rw [hb (by omega), hc (by omega)]
  · rfl
  · rw [hb (by omega)]; rcases h' with rfl | rfl | rfl <;> rfl
  · rw [hb (by omega), hc (by omega)]
  · rw [hb (by omega)]; rcases h' with rfl | rfl <;> rfl
theorem okV_none {wd v : Int} : okV wd (-1) v := ⟨fun h => by omega, fun h => by omega⟩
theorem leafV_ok {wd : Int} (h1 : 2 ≤ wd) (h2 : wd ≤ 8) {t : Tm} {v : Int} (ho : t.op = 0 ∨ t.op = 1) (h : leafV wd inp t = some v) : okV wd (sortF t.op) v ∧ t.v < inp.length ∧ v = inp.getD t.v.toNat 0 := by
  unfold leafV at h
  split at h
  · cases h
  split at h
  · cases h
  split at h
  · cases h
  rename_i g1 g2 g3
  cases h
  refine ⟨?_, by omega, rfl⟩
  rcases ho with ho | ho
  · rw [ho]
    refine ⟨fun _ => ?_, fun h => by rw [show sortF 0 = 0 from rfl] at h; omega⟩
    have : wrapW wd (inp.getD t.v.toNat 0) = inp.getD t.v.toNat 0 := by
      by_cases h : wrapW wd (inp.getD t.v.toNat 0) = inp.getD t.v.toNat 0
      · exact h
      · exact absurd ⟨ho, h⟩ g2
    rw [← this]; exact wrapW_in _ h1 h2
  · rw [ho]
    refine ⟨fun h => by rw [show sortF 1 = 1 from rfl] at h; omega, fun _ => ?_⟩
    by_cases h : inp.getD t.v.toNat 0 = 0
    · exact .inl h
    · by_cases h' : inp.getD t.v.toNat 0 = 1
      · exact .inr h'
      · exact absurd ⟨ho, h, h'⟩ g3
theorem fits_leaf {T : TS} {t : Tm} (h : fitsT T t = true) (hf : formF t.op = none) : (t.a = 0 ∧ t.b = 0 ∧ t.c = 0) ∧ (((t.op = 0 ∨ t.op = 1) ∧ 0 ≤ t.v ∧ t.v < 24) ∨ (t.op = 2 ∧ wrapW T.width t.v = t.v) ∨ (t.op = 3 ∧ (t.v = 0 ∨ t.v = 1))) := by
  unfold fitsT at h
  rw [hf] at h
  dsimp only at h
  unfold leafOk at h
  rw [Bool.and_eq_true] at h
  obtain ⟨h1, h2⟩ := h
  refine ⟨of_decide_eq_true h1, ?_⟩
  split at h2
  · exact .inl ⟨‹_›, of_decide_eq_true h2⟩
  · split at h2
    · exact .inr (.inl ⟨‹_›, of_decide_eq_true h2⟩)
    · split at h2
      · exact .inr (.inr ⟨‹_›, of_decide_eq_true h2⟩)
      · cases h2
theorem vAt_ok (hw : TWf T) : ∀ (n k : Nat), k < n → ∀ {t : Tm} {v : Int}, T.nodes[k]? = some t → vAt T inp k = some v → okV T.width (sortF t.op) v
  | 0, _, h, _, _, _, _ => by omega
  | n + 1, k, hkn, t, v, hk, hv => by
    rcases hf : formF t.op with _ | ⟨⟨s0, s1, s2⟩, s⟩
    · rw [vAt_leaf hk hf] at hv
      obtain ⟨_, h⟩ := fits_leaf (hw.fit k t hk) hf
      split at hv
      · exact (leafV_ok hw.w1 hw.w2 ‹_› hv).1
      · cases hv
        rcases h with ⟨h, _⟩ | ⟨h, h'⟩ | ⟨h, h'⟩
        · exact absurd h ‹_›
        · rw [h]
          refine ⟨fun _ => ?_, fun h => by rw [show sortF 2 = 0 from rfl] at h; omega⟩
          dsimp only at h'
          rw [← h']; exact wrapW_in _ hw.w1 hw.w2
        · rw [h]
          exact ⟨fun h => by rw [show sortF 3 = 1 from rfl] at h; omega, fun _ => h'⟩
    · rw [vAt_op hw hk hf] at hv
      obtain ⟨h0, h1, h2, _⟩ := fits_args_some (hw.fit k t hk) hf
      have key : ∀ (so y x : Int), argOk ⟨T.width, T.nodes.take k⟩ so y = true → argV (vAt T inp) so y = some x → okV T.width so x := fun so y x ho hx => by
        by_cases hs : so = -1
        · subst hs; exact okV_none
        · obtain ⟨j, t', rfl, hj, hsort⟩ := argOk_node ho hs
          have hjl := (List.getElem?_eq_some_iff.1 hj).1
          rw [List.length_take] at hjl
          have hj' : T.nodes[j]? = some t' := by rw [List.getElem?_take_of_lt (by omega)] at hj; exact hj
          unfold argV at hx
          rw [if_neg hs, Int.toNat_natCast] at hx
          rw [← hsort]
          exact vAt_ok hw n j (by omega) hj' hx
      rcases e0 : argV (vAt T inp) s0 t.a with _ | a
      · rw [e0] at hv; cases hv
      rcases e1 : argV (vAt T inp) s1 t.b with _ | b
      · rw [e0, e1] at hv; cases hv
      rcases e2 : argV (vAt T inp) s2 t.c with _ | c
      · rw [e0, e1, e2] at hv; cases hv
      rw [e0, e1, e2] at hv
      cases hv
      rw [formF_sort hf]
      exact opV_ok hw.w1 hw.w2 hf (key _ _ _ h0 e0) (key _ _ _ h1 e1) (key _ _ _ h2 e2)
theorem sortF_01 (op : Int) : sortF op = 0 ∨ sortF op = 1 := by
  unfold sortF
  split
  · exact .inr rfl
  · rcases hf : formF op with _ | ⟨a, s⟩
    · exact .inl rfl
    · dsimp only
      rcases formF_cases hf with ⟨_, h⟩ | ⟨_, h⟩ | ⟨_, h⟩ | ⟨_, h⟩ | ⟨_, h⟩ | ⟨_, h⟩ | ⟨_, h⟩ <;> cases h <;> simp
theorem vAt_bd (hw : TWf T) {k : Nat} {v : Int} (hv : vAt T inp k = some v) : -128 ≤ v ∧ v ≤ 128 := by
  rcases hk : T.nodes[k]? with _ | t
  · unfold vAt at hv; rw [vF, if_pos rfl, hk] at hv; cases hv
  · exact okV_bd (vAt_ok hw (k + 1) k (Nat.lt_succ_self k) hk hv) (sortF_01 _)

/-! ### The list of parts -/
theorem parts_sorted : (partsN T i).Pairwise (· < ·) := List.Pairwise.sublist List.filter_sublist List.pairwise_lt_range
theorem parts_before {j x k : Nat} (hk : (partsN T i)[j]? = some k) (hx : x ∈ partsN T i) (hlt : x < k) : x ∈ (partsN T i).take j := by
  obtain ⟨n, hn⟩ := List.getElem?_of_mem hx
  obtain ⟨hj, ej⟩ := List.getElem?_eq_some_iff.1 hk
  obtain ⟨hn', en⟩ := List.getElem?_eq_some_iff.1 hn
  by_cases h : n < j
  · have : (List.take j (partsN T i))[n]? = some x := by rw [List.getElem?_take_of_lt h]; exact hn
    exact List.mem_of_getElem? this
  · rcases Nat.lt_or_ge j n with h' | h'
    · have := List.pairwise_iff_getElem.1 (parts_sorted (T := T) (i := i)) j n hj hn' h'
      omega
    · have : j = n := by omega
      subst this; omega
theorem parts_fresh {j k : Nat} (hk : (partsN T i)[j]? = some k) : k ∉ (partsN T i).take j := by
  intro h
  obtain ⟨n, hn⟩ := List.getElem?_of_mem h
  have hnl := (List.getElem?_eq_some_iff.1 hn).1
  rw [List.length_take] at hnl
  rw [List.getElem?_take_of_lt (by omega)] at hn
  obtain ⟨hj, ej⟩ := List.getElem?_eq_some_iff.1 hk
  obtain ⟨hn', en⟩ := List.getElem?_eq_some_iff.1 hn
  have := List.pairwise_iff_getElem.1 (parts_sorted (T := T) (i := i)) n j hn' hj (by omega)
  omega
theorem parts_le {k : Nat} (hk : k ∈ partsN T i) : k ≤ i ∧ mF T i k = true := by
  obtain ⟨h1, h2⟩ := List.mem_filter.1 hk
  exact ⟨by have := List.mem_range.1 h1; omega, h2⟩
theorem parts_self (hw : TWf T) : i ∈ partsN T i := List.mem_filter.2 ⟨List.mem_range.2 (Nat.lt_succ_self i), mF_self hw⟩
theorem parts_args (hw : TWf T) {k x : Nat} (hk : k ∈ partsN T i) (hx : x ∈ argsAt T k) : x ∈ partsN T i := by
  obtain ⟨h1, h2⟩ := parts_le hk
  exact List.mem_filter.2 ⟨List.mem_range.2 (by have := args_lt hw hx; omega), mF_args hw h1 h2 hx⟩
theorem parts_fail (hw : TWf T) {k : Nat} (hk : k ∈ partsN T i) (hn : vAt T inp k = none) : vAt T inp i = none := vAt_fail hw _ k (parts_le hk).2 hn
end
/-- What Eval returns. -/
def evalF (T : TS) (inp : List Int) (i : Int) : Int × Int := match nodeAt T i with
  | some _ => match vAt T inp i.toNat with
    | some v => (v, 0)
    | none => (0, 2)
  | none => (0, 1)
end Go.Proofs.Ytgmcajojigedaaa
namespace Go.Proofs.Ytgmcajojigedaaa
open Go.RowKit Go.Maps
open Go.ChangeMaps (setBlock heap_setBlock_same heap_setBlock_other)

def ventsL (f : Nat → Int) (ks : List Nat) : List MapEntry := ks.mapIdx fun (n : Nat) (k : Nat) => { key := .int .i64 (k : Int), val := .int .i64 (f k), born := n }
theorem vents_get {f : Nat → Int} {ks : List Nat} {n : Nat} {e : MapEntry} (h : (ventsL f ks)[n]? = some e) : ∃ k, ks[n]? = some k ∧ e = { key := .int .i64 (k : Int), val := .int .i64 (f k), born := n } := by
  simp only [ventsL, List.getElem?_mapIdx, Option.map_eq_some_iff] at h
  obtain ⟨k, h1, h2⟩ := h
  exact ⟨k, h1, h2.symm⟩
theorem vents_snoc (f : Nat → Int) (ks : List Nat) (k : Nat) : ventsL f (ks ++ [k]) = ventsL f ks ++ [MapEntry.mk (.int .i64 (k : Int)) (.int .i64 (f k)) ks.length] := by
  simp [ventsL, List.mapIdx_append]
theorem key3 (k : Nat) (h : k ≤ 1000000) : ∃ l, keyOf Try.prog 3 (.int .i64 (k : Int)) = some l := by
  have hw : (Lit.int .i64 (k : Int)).wf = true := WalkArith.wf_i64 (by omega)
  unfold keyOf
  rw [Try.underlying3]
  dsimp only
  unfold mapKey
  rw [Try.underlying3]
  simp [hw]
theorem vents_keys {f : Nat → Int} {ks : List Nat} (h : ∀ k ∈ ks, k ≤ 1000000) : KeysOk Try.prog 3 (ventsL f ks) := by
  intro e he
  obtain ⟨n, hn⟩ := List.getElem?_of_mem he
  obtain ⟨k, h1, rfl⟩ := vents_get hn
  exact key3 k (h k (List.mem_of_getElem? h1))
theorem look_vents {f : Nat → Int} {ks : List Nat} (h : ∀ k ∈ ks, k ≤ 1000000) (x : Nat) (hx : x ≤ 1000000) (W : World) {m c : Nat} (hm : W.heap[m]? = some (.map (ventsL f ks).toArray c)) :
    (Instr.lookup 127 (.map (some m)) (.int .i64 (x : Int)) false).run Try.prog W = .ok (.int .i64 (if x ∈ ks then f x else 0)) W := by
  obtain ⟨l, hl⟩ := key3 x hx
  rcases run_lookup_at law3 false Try.underlying127 (zero3 W) hm (vents_keys h) hl with ⟨h1, h2⟩ | ⟨j, e, h1, h2, h3⟩
  · rw [if_neg]
    · exact h1
    · intro hk
      obtain ⟨n, hn⟩ := List.getElem?_of_mem hk
      have he : (ventsL f ks)[n]? = some { key := .int .i64 (x : Int), val := .int .i64 (f x), born := n } := by simp [ventsL, hn]
      exact h2 _ (List.mem_of_getElem? he) rfl
  · obtain ⟨k, hk, rfl⟩ := vents_get h1
    have : k = x := by simp at h2; omega
    subst this
    rw [if_pos (List.mem_of_getElem? hk)]
    exact h3
theorem put_vents {f : Nat → Int} {ks : List Nat} (h : ∀ k ∈ ks, k ≤ 1000000) (x : Nat) (hx : x ≤ 1000000) (hn : x ∉ ks) {v : Int} (hv : v = f x) (W : World) {m : Nat} (hm : W.heap[m]? = some (.map (ventsL f ks).toArray ks.length)) :
    (Instr.mapUpdate 127 (.map (some m)) (.int .i64 (x : Int)) (.int .i64 v)).run Try.prog W = .ok () (setBlock W m (.map (ventsL f (ks ++ [x])).toArray (ks.length + 1))) := by
  obtain ⟨l, hl⟩ := key3 x hx
  rw [vents_snoc, ← hv]
  refine run_update_new law3 Try.underlying127 hm (vents_keys h) hl fun e he hk => ?_
  obtain ⟨n, hn'⟩ := List.getElem?_of_mem he
  obtain ⟨k, h1, rfl⟩ := vents_get hn'
  have : k = x := by simp at hk; omega
  subst this
  exact hn (List.mem_of_getElem? h1)
theorem fr_setBlock {B m : Nat} {w : World} {es : Array MapEntry} {k : Nat} (hm : w.heap[m]? = some (.map es k)) (hB : B ≤ m) (o : Obj) : Fr B [] [m] w (setBlock w m o) :=
  ⟨rfl, rfl, rfl, by simp [setBlock], fun i oi hi hn => by
    by_cases him : i = m
    · subst him; rw [hm] at hi; cases hi; exact absurd ⟨hB, by simp [turns]⟩ hn
    · exact (heap_setBlock_other hm _ him).trans hi⟩
section
variable {B0 p m : Nat} {A A2 : Option Addr} {c' c2 : Nat} {T : TS} {w : World} {inp : List Int}
def EvRet (w : World) (r : Int × Int) (e : Ending) (w' : World) : Prop := e = .returned (.tuple #[.int .i64 r.1, .int .i64 r.2]) ∧ Below w.heap.size w w'
def fV (T : TS) (inp : List Int) (k : Nat) : Int := (vAt T inp k).getD 0
theorem eval_no (hb : Tb B0 w p m A c' T) {i : Int} (hi : hasB T i = false) :
    Calls Try.prog 58 #[.pointer (some ⟨p, 0, none⟩), .int .i64 i, .slice A2 inp.length c2] w (EvRet w (0, 1)) := by
  have HB := Lib.hid hb
  have HI := Lib.hid hi
  clear hb hi
  go_enter Try.func58, Try.ntmps58
  go_wp2_with (go_at_call 117; go_must (refine (exists_v HB.out HI.out).mono ?_; rintro e w' ⟨rfl, rfl⟩))
  go_ret2
  exact ⟨rfl, Below.refl _ _⟩
set_option maxRecDepth 100000 in
set_option maxHeartbeats 8000000 in
theorem eval_yes (hb : Tb B0 w p m A c' T) (hw : TWf T) (hin : SlI w w.heap.size A2 c2 inp) {i : Nat} {t0 : Tm} (hi : T.nodes[i]? = some t0) :
    Calls Try.prog 58 #[.pointer (some ⟨p, 0, none⟩), .int .i64 i, .slice A2 inp.length c2] w (EvRet w (evalF T inp i)) := by
  have hil := (List.getElem?_eq_some_iff.1 hi).1
  have hsz := hw.size
  have hinb := hin.big
  have HB := Lib.hid hb
  have HI := Lib.hid hi
  have HIN := Lib.hid hin
  have HIL := Lib.hid hil
  have HSZ := Lib.hid hsz
  have HAS : Hid (hasB T (i : Int) = true) := decide_eq_true (by omega)
  have HPL : Hid (p < w.heap.size) := lt_of_some hb.blk
  have HML : Hid (m < w.heap.size) := lt_of_some hb.map
  have HEV : Hid (evalF T inp i = match vAt T inp i with | some v => (v, 0) | none => (0, 2)) := by
    show _ = _
    unfold evalF nodeAt
    rw [if_pos (by omega), Int.toNat_natCast, hi]
    try rfl
  have HBAD : Hid (∀ k, k ∈ partsN T i → vAt T inp k = none → evalF T inp i = (0, 2)) := fun k hk hn => by rw [HEV.out, parts_fail hw hk hn]
  have HPL2 : Hid (∀ j, ∀ k ∈ (partsN T i).take j, k ≤ 1000000) := fun j k hk => by have := (parts_le (List.mem_of_mem_take hk)).1; omega
  obtain ⟨P, hP⟩ : ∃ P, partsN T i = P := ⟨_, rfl⟩
  have HP := Lib.hid hP
  have hPl : P.length ≤ i + 1 := by
    rw [← hP]
    exact Nat.le_trans (List.length_filter_le _ _) (by simp)
  have hPl2 : P.length ≤ 20000 := by omega
  have hmm := @run_makeMap Try.prog
  obtain ⟨S, hS⟩ : ∃ S, w.heap.size = S := ⟨_, rfl⟩
  have HSE := Lib.hid hS
  have hB1 : Below w.heap.size w (w.alloc (.map #[] 0)) := below_alloc _ _
  have hm1 : (w.alloc (.map #[] 0)).heap[w.heap.size]? = some (.map #[] 0) := (MapKept.heap_alloc w (.map #[] 0)).1
  have HB1 := Lib.hid hB1
  have HM1 := Lib.hid hm1
  clear hb hi hil hsz hin hP hPl hB1 hm1 hS
  go_enter Try.func58, Try.ntmps58
  go_wp2_with (first
    | (go_at_call 117; go_must (refine (exists_v HB.out HAS.out).mono ?_; rintro e w' ⟨rfl, rfl⟩))
    | (go_at_call 118; go_must (refine (parts_yes (HB.out.below HB1.out) hw HI.out).mono ?_; rintro e w2 ⟨v2, rfl, ho2, hb2⟩; rw [HP.out] at ho2; obtain ⟨A1, c1, rfl, hs2⟩ := ho2.sl w.heap.size; rw [List.length_map]; have HSP := Lib.hid hs2; have HB2 : Hid (Below w.heap.size w w2) := HB1.out.trans (hb2.mono HB1.out.size); have HM2 : Hid (w2.heap[w.heap.size]? = some (.map #[] 0)) := (hb2.block _ (lt_of_some HM1.out)).trans HM1.out; clear ho2 hs2 hb2)))
  rw [HSE.out]
  have HM2' : Hid (w2.heap[S]? = some (.map #[] 0)) := by have := HM2.out; rwa [HSE.out] at this
  clear hmm HM2
  go_loopw [10, 11, 12, 22] (fun _ _ _ u wr => ∃ j : Nat, j ≤ P.length ∧ u = .int .i64 j ∧ wr.heap[S]? = some (.map (ventsL (fV T inp) (P.take j)).toArray j) ∧ (∀ k ∈ P.take j, vAt T inp k ≠ none) ∧ Fr w.heap.size [] [S] w2 wr) (fun _ _ _ u _ => P.length - (intOf u).toNat)
  case atStart => exact ⟨0, Nat.zero_le _, rfl, by have := HM2'.out; simpa [ventsL] using this, fun k hk => by simp at hk, Fr.refl _ _ _ _⟩
  case round =>
    obtain ⟨j, hj, rfl, hmap, hall, hfr⟩ := hrel
    rename_i wr
    have HMAP := Lib.hid hmap
    have HALL := Lib.hid hall
    have HFR := Lib.hid hfr
    have HBW : Hid (Below w.heap.size w wr) := HB2.out.trans (hfr.below HB2.out.size)
    by_cases hlt : j < P.length
    · obtain ⟨bp, op, x, hA1, hx, hcx⟩ := (HSP.out.fr hfr (by decide)).at_ (k := j) (by rw [List.length_map]; exact hlt)
      subst hA1
      have hPj : P[j]? = some P[j] := List.getElem?_eq_getElem hlt
      obtain ⟨k, hk⟩ : ∃ k, P[j] = k := ⟨_, rfl⟩
      rw [hk] at hPj
      have hx' : x = (k : Int) := by rw [List.getElem?_map, hPj] at hx; exact (Option.some.inj hx).symm
      subst hx'
      have hkp : k ∈ partsN T i := by rw [HP.out]; exact List.mem_of_getElem? hPj
      have hki := (parts_le hkp).1
      have hkl : k < T.nodes.length := by have := HIL.out; omega
      have hklI : (k : Int) < (T.nodes.length : Int) := by omega
      have ht := HB.out.below HBW.out
      have c1' := ht.cell1
      obtain ⟨bn, t, hA, htk, hcell⟩ := ht.nodes.at_ hkl
      rw [hA] at c1'
      obtain ⟨n0, n1, n2, n3, n4⟩ := hcell
      have hfit := hw.fit k t htk
      have HT := Lib.hid ht
      have HKP := Lib.hid hkp
      have HPJ := Lib.hid hPj
      have hk6 : k ≤ 1000000 := by have := HSZ.out; omega
      have hfresh : k ∉ P.take j := by have := parts_fresh (T := T) (i := i) (j := j) (k := k) (by rw [HP.out]; exact hPj); rwa [HP.out] at this
      have HFRESH := Lib.hid hfresh
      have htake : P.take (j + 1) = P.take j ++ [k] := by rw [List.take_add_one, hPj]; rfl
      have HTAKE := Lib.hid htake
      have hlen : (P.take j).length = j := by rw [List.length_take]; omega
      have HLEN := Lib.hid hlen
      have hks : ∀ k ∈ P.take j, k ≤ 1000000 := by have := HPL2.out j; rwa [HP.out] at this
      have HKS := Lib.hid hks
      -- what an update leaves
      have hupd : ∀ (W : World) (v : Int), Fr w.heap.size [] [S] w2 W → W.heap[S]? = some (.map (ventsL (fV T inp) (P.take j)).toArray j) → vAt T inp k = some v →
          (Instr.mapUpdate 127 (.map (some S)) (.int .i64 (k : Int)) (.int .i64 v)).run Try.prog W = .ok () (setBlock W S (.map (ventsL (fV T inp) (P.take (j + 1))).toArray (j + 1))) ∧
          (setBlock W S (.map (ventsL (fV T inp) (P.take (j + 1))).toArray (j + 1))).heap[S]? = some (.map (ventsL (fV T inp) (P.take (j + 1))).toArray (j + 1)) ∧
          (∀ x ∈ P.take (j + 1), vAt T inp x ≠ none) ∧ Fr w.heap.size [] [S] w2 (setBlock W S (.map (ventsL (fV T inp) (P.take (j + 1))).toArray (j + 1))) := fun W v hf hm hv => by
        refine ⟨?_, heap_setBlock_same hm _, fun x hx => ?_, hf.trans (fr_setBlock hm (by have := HSE.out; omega) _)⟩
        · have := put_vents (f := fV T inp) HKS.out k hk6 HFRESH.out (v := v) (by unfold fV; rw [hv]; rfl) W (m := S) (by rw [HLEN.out]; exact hm)
          rw [HLEN.out] at this
          rw [HTAKE.out]; exact this
        · rw [HTAKE.out] at hx
          rcases List.mem_append.1 hx with h | h
          · exact HALL.out x h
          · simp at h; subst h; rw [hv]; simp
      have HUPD := Lib.hid hupd
      have HHW := Lib.hid hw
      obtain ⟨op, v, a, b, c⟩ := t
      dsimp only at n0 n1 n2 n3 n4
      clear hmap hall hfr hx hPj hkp ht hfresh htake hlen hks hupd hk hA
      rcases hf : formF op with _ | ⟨⟨s0, s1, s2⟩, so⟩
      · have hleaf := vAt_leaf (inp := inp) htk hf
        obtain ⟨-, hcase⟩ := fits_leaf hfit hf
        dsimp only at hleaf hcase
        rcases hcase with ⟨hop, hv0, hv24⟩ | ⟨hop, _⟩ | ⟨hop, _⟩
        · rw [if_pos hop] at hleaf
          obtain ⟨v0, rfl⟩ := Int.eq_ofNat_of_zero_le hv0
          unfold leafV at hleaf
          dsimp only at hleaf
          by_cases hlen : (inp.length : Int) ≤ (v0 : Int)
          · rw [if_pos hlen] at hleaf
            have HRES : Hid (evalF T inp i = (0, 2)) := HBAD.out k HKP.out hleaf
            have d1 : decide ((inp.length : Int) ≤ (v0 : Int)) = true := decide_eq_true hlen
            have d2 : decide (inp.length ≤ v0) = true := decide_eq_true (by omega)
            clear hleaf hlen hfit htk hf hv0 hv24
            rcases hop with rfl | rfl
            · go_wp2
              go_ret2
              rw [HRES.out]
              exact ⟨rfl, HBW.out.trans ((below_alloc _ _).mono HBW.out.size)⟩
            · go_wp2
              go_ret2
              rw [HRES.out]
              exact ⟨rfl, HBW.out.trans ((below_alloc _ _).mono HBW.out.size)⟩
          · rw [if_neg hlen] at hleaf
            have d1 : decide ((inp.length : Int) ≤ (v0 : Int)) = false := decide_eq_false hlen
            have d2 : decide (inp.length ≤ v0) = false := decide_eq_false (by omega)
            have hvI : (v0 : Int) < (inp.length : Int) := by omega
            obtain ⟨bi, oi, y, hA2, hy, hcy⟩ := (HIN.out.below HBW.out).at_ (k := v0) (by omega)
            subst hA2
            have hbl := cell_lt hcy
            dsimp only at hbl
            have hgd : inp.getD (v0 : Int).toNat 0 = y := by rw [Int.toNat_natCast]; exact getD_of hy
            rw [hgd] at hleaf
            obtain ⟨V, hV⟩ : ∃ V, wrapW T.width y = V := ⟨_, rfl⟩
            rw [hV] at hleaf
            have HV := Lib.hid hV
            have HUP0 := HUPD.out (wr.alloc (.cells #[.int .i64 op, .int .i64 v0, .int .i64 a, .int .i64 b, .int .i64 c] 84)) y (HFR.out.trans (Fr.of_below (below_alloc _ _))) ((Below.heap_alloc wr _ _ (lt_of_some HMAP.out)).trans HMAP.out)
            clear hlen hfit htk hf hv0 hv24 hy hgd hV
            rcases hop with rfl | rfl
            · by_cases hne : V = y
              · have hv : vAt T inp k = some y := by rw [hleaf, if_neg (fun h => h.2 hne), if_neg (fun h => by have := h.1; omega)]
                have e1 : (V != y) = false := by rw [hne]; exact bne_self_eq_false _
                obtain ⟨hup, hres⟩ := HUP0 hv
                have HRES := Lib.hid hres
                have hw0 := (HT.out.below (below_alloc wr (.cells #[.int .i64 0, .int .i64 v0, .int .i64 a, .int .i64 b, .int .i64 c] 84))).cell0
                clear hleaf hne hv hres HUP0
                go_wp2_with (go_at_call 25; go_must (refine (wrap_v HV.out _).mono ?_; rintro e w9 ⟨rfl, rfl⟩))
                go_roundw
                case rel => exact ⟨j + 1, by omega, by go_num, HRES.out⟩
                case measure => simp [intOf]; omega
              · have hv : vAt T inp k = none := by rw [hleaf, if_pos ⟨rfl, hne⟩]
                have HRES : Hid (evalF T inp i = (0, 2)) := HBAD.out k HKP.out hv
                have e1 : (V != y) = true := by rw [bne_iff_ne]; exact hne
                have hw0 := (HT.out.below (below_alloc wr (.cells #[.int .i64 0, .int .i64 v0, .int .i64 a, .int .i64 b, .int .i64 c] 84))).cell0
                clear hleaf hne hv HUP0
                go_wp2_with (go_at_call 25; go_must (refine (wrap_v HV.out _).mono ?_; rintro e w9 ⟨rfl, rfl⟩))
                go_ret2
                rw [HRES.out]
                exact ⟨rfl, HBW.out.trans ((below_alloc _ _).mono HBW.out.size)⟩
            · rw [if_neg (fun h => by have := h.1; omega)] at hleaf
              by_cases hy0 : y = 0
              · subst hy0
                have hv : vAt T inp k = some 0 := by rw [hleaf, if_neg (fun h => h.2.1 rfl)]
                obtain ⟨hup, hres⟩ := HUP0 hv
                have HRES := Lib.hid hres
                clear hleaf hv hres HUP0
                go_wp2
                go_roundw
                case rel => exact ⟨j + 1, by omega, by go_num, HRES.out⟩
                case measure => simp [intOf]; omega
              · by_cases hy1 : y = 1
                · subst hy1
                  have hv : vAt T inp k = some 1 := by rw [hleaf, if_neg (fun h => h.2.2 rfl)]
                  obtain ⟨hup, hres⟩ := HUP0 hv
                  have HRES := Lib.hid hres
                  clear hleaf hv hres HUP0 hy0
                  go_wp2
                  go_roundw
                  case rel => exact ⟨j + 1, by omega, by go_num, HRES.out⟩
                  case measure => simp [intOf]; omega
                · have hv : vAt T inp k = none := by rw [hleaf, if_pos ⟨rfl, hy0, hy1⟩]
                  have HRES : Hid (evalF T inp i = (0, 2)) := HBAD.out k HKP.out hv
                  have e1 : (y != 0) = true := by rw [bne_iff_ne]; exact hy0
                  have e2 : (y != 1) = true := by rw [bne_iff_ne]; exact hy1
                  clear hleaf hv HUP0 hy0 hy1
                  go_wp2
                  go_ret2
                  rw [HRES.out]
                  exact ⟨rfl, HBW.out.trans ((below_alloc _ _).mono HBW.out.size)⟩
        · subst hop
          have hv : vAt T inp k = some v := by rw [hleaf, if_neg (by omega)]
          obtain ⟨hup, hres⟩ := HUPD.out (wr.alloc (.cells #[.int .i64 2, .int .i64 v, .int .i64 a, .int .i64 b, .int .i64 c] 84)) v (HFR.out.trans (Fr.of_below (below_alloc _ _))) ((Below.heap_alloc wr _ _ (lt_of_some HMAP.out)).trans HMAP.out) hv
          have HRES := Lib.hid hres
          clear hleaf hv hres hfit htk hf
          go_wp2
          go_roundw
          case rel => exact ⟨j + 1, by omega, by go_num, HRES.out⟩
          case measure => simp [intOf]; omega
        · subst hop
          have hv : vAt T inp k = some v := by rw [hleaf, if_neg (by omega)]
          obtain ⟨hup, hres⟩ := HUPD.out (wr.alloc (.cells #[.int .i64 3, .int .i64 v, .int .i64 a, .int .i64 b, .int .i64 c] 84)) v (HFR.out.trans (Fr.of_below (below_alloc _ _))) ((Below.heap_alloc wr _ _ (lt_of_some HMAP.out)).trans HMAP.out) hv
          have HRES := Lib.hid hres
          clear hleaf hv hres hfit htk hf
          go_wp2
          go_roundw
          case rel => exact ⟨j + 1, by omega, by go_num, HRES.out⟩
          case measure => simp [intOf]; omega
      · obtain ⟨_, _, ⟨ga1, ga2⟩, ⟨gb1, gb2⟩, ⟨gc1, gc2⟩⟩ := fits_bd hfit (by show (T.nodes.take k).length ≤ _; rw [List.length_take]; have := HSZ.out; omega)
        dsimp only at ga1 ga2 gb1 gb2 gc1 gc2
        obtain ⟨fa0, fa1, fa2, fv⟩ := fits_args_some hfit hf
        dsimp only at fa0 fa1 fa2 fv
        obtain ⟨na, rfl⟩ := Int.eq_ofNat_of_zero_le ga1
        obtain ⟨nb, rfl⟩ := Int.eq_ofNat_of_zero_le gb1
        obtain ⟨nc, rfl⟩ := Int.eq_ofNat_of_zero_le gc1
        obtain ⟨o1, o2⟩ := formF_lt hf
        -- the values that the map holds
        obtain ⟨xa, hxa⟩ : ∃ x, (if na ∈ P.take j then fV T inp na else 0) = x := ⟨_, rfl⟩
        obtain ⟨xb, hxb⟩ : ∃ x, (if nb ∈ P.take j then fV T inp nb else 0) = x := ⟨_, rfl⟩
        obtain ⟨xc, hxc⟩ : ∃ x, (if nc ∈ P.take j then fV T inp nc else 0) = x := ⟨_, rfl⟩
        have hfVb : ∀ n x, (if n ∈ P.take j then fV T inp n else 0) = x → -128 ≤ x ∧ x ≤ 128 := fun n x h => by
          split at h
          · unfold fV at h
            rcases hvn : vAt T inp n with _ | y
            · rw [hvn] at h; simp at h; omega
            · rw [hvn] at h; simp at h; have := vAt_bd HHW.out hvn; omega
          · omega
        have ba := hfVb _ _ hxa
        have bb := hfVb _ _ hxb
        have harg : ∀ (s' : Int) (n : Nat) (x : Int), argOk ⟨T.width, T.nodes.take k⟩ s' (n : Int) = true → s' ≠ -1 → n ∈ argsAt T k → (if n ∈ P.take j then fV T inp n else 0) = x → argV (vAt T inp) s' (n : Int) = some x ∧ okV T.width s' x := fun s' n x ho hs hm h => by
          have h1 := parts_args HHW.out HKP.out hm
          have h2 := args_lt HHW.out hm
          have h3 : n ∈ P.take j := by
            have := parts_before (T := T) (i := i) (j := j) (k := k) (x := n) (by rw [HP.out]; exact HPJ.out) h1 h2
            rwa [HP.out] at this
          rw [if_pos h3] at h
          rcases hvn : vAt T inp n with _ | y
          · exact absurd hvn (HALL.out n h3)
          · unfold fV at h
            rw [hvn] at h
            simp at h
            subst h
            refine ⟨by unfold argV; rw [if_neg hs, Int.toNat_natCast]; exact hvn, ?_⟩
            obtain ⟨j', t', h4, h5, h6⟩ := argOk_node ho hs
            have : j' = n := by omega
            subst this
            have hjl := (List.getElem?_eq_some_iff.1 h5).1
            rw [List.length_take] at hjl
            rw [List.getElem?_take_of_lt (by omega)] at h5
            rw [← h6]
            exact vAt_ok HHW.out _ _ (Nat.lt_succ_self _) h5 hvn
        have hargs : argsAt T k = (if s0 = -1 then [] else [na]) ++ ((if s1 = -1 then [] else [nb]) ++ (if s2 = -1 then [] else [nc])) := by
          unfold argsAt; rw [htk]; dsimp only; unfold argsL; dsimp only; rw [hf]; simp
        have hs0 : s0 ≠ -1 := by rcases formF_cases hf with ⟨_, h⟩ | ⟨_, h⟩ | ⟨_, h⟩ | ⟨_, h⟩ | ⟨_, h⟩ | ⟨_, h⟩ | ⟨_, h⟩ <;> (simp only [Prod.mk.injEq] at h; omega)
        obtain ⟨va, oka⟩ := harg s0 na xa fa0 hs0 (by rw [hargs, if_neg hs0]; simp) hxa
        obtain ⟨yb, vb, okb, eqb⟩ : ∃ y, argV (vAt T inp) s1 (nb : Int) = some y ∧ okV T.width s1 y ∧ (s1 ≠ -1 → xb = y) := by
          by_cases h : s1 = -1
          · exact ⟨0, by unfold argV; rw [if_pos h], by rw [h]; exact okV_none, fun h' => absurd h h'⟩
          · obtain ⟨h1, h2⟩ := harg s1 nb xb fa1 h (by rw [hargs, if_neg h]; simp) hxb
            exact ⟨xb, h1, h2, fun _ => rfl⟩
        obtain ⟨yc, vc, okc, eqc⟩ : ∃ y, argV (vAt T inp) s2 (nc : Int) = some y ∧ okV T.width s2 y ∧ (s2 ≠ -1 → xc = y) := by
          by_cases h : s2 = -1
          · exact ⟨0, by unfold argV; rw [if_pos h], by rw [h]; exact okV_none, fun h' => absurd h h'⟩
          · obtain ⟨h1, h2⟩ := harg s2 nc xc fa2 h (by rw [hargs, if_neg h]; simp) hxc
            exact ⟨xc, h1, h2, fun _ => rfl⟩
        have hv : vAt T inp k = some (opV T.width op xa xb xc) := by
          rw [vAt_op HHW.out htk hf]
          dsimp only
          rw [va, vb, vc]
          show some _ = some _
          rw [opV_need hf eqb eqc]
        have h01 : op = 12 ∨ op = 13 → (xa = 0 ∨ xa = 1) ∧ (xb = 0 ∨ xb = 1) := fun h => by
          rcases formF_cases hf with ⟨h', _⟩ | ⟨h', _⟩ | ⟨h', _⟩ | ⟨h', _⟩ | ⟨_, h'⟩ | ⟨h', _⟩ | ⟨h', _⟩
          · omega
          · omega
          · omega
          · omega
          · simp only [Prod.mk.injEq] at h'
            refine ⟨oka.2 (by omega), ?_⟩
            rw [eqb (by omega)]; exact okb.2 (by omega)
          · omega
          · omega
        have hla := look_vents (f := fV T inp) HKS.out na (by omega) (wr.alloc (.cells #[.int .i64 op, .int .i64 v, .int .i64 na, .int .i64 nb, .int .i64 nc] 84)) ((Below.heap_alloc wr _ _ (lt_of_some HMAP.out)).trans HMAP.out)
        have hlb := look_vents (f := fV T inp) HKS.out nb (by omega) (wr.alloc (.cells #[.int .i64 op, .int .i64 v, .int .i64 na, .int .i64 nb, .int .i64 nc] 84)) ((Below.heap_alloc wr _ _ (lt_of_some HMAP.out)).trans HMAP.out)
        have hlc := look_vents (f := fV T inp) HKS.out nc (by omega) (wr.alloc (.cells #[.int .i64 op, .int .i64 v, .int .i64 na, .int .i64 nb, .int .i64 nc] 84)) ((Below.heap_alloc wr _ _ (lt_of_some HMAP.out)).trans HMAP.out)
        rw [hxa] at hla
        rw [hxb] at hlb
        rw [hxc] at hlc
        have HV := Lib.hid hv
        have H01 := Lib.hid h01
        have e0 : (op == 0) = false := beq_eq_false_iff_ne.2 (by omega)
        have e1 : (op == 1) = false := beq_eq_false_iff_ne.2 (by omega)
        have e2 : (op == 2) = false := beq_eq_false_iff_ne.2 (by omega)
        have e3 : (op == 3) = false := beq_eq_false_iff_ne.2 (by omega)
        obtain ⟨ba1, ba2⟩ := ba
        obtain ⟨bb1, bb2⟩ := bb
        clear hxa hxb hxc hfVb harg hargs hs0 va oka vb okb eqb vc okc eqc hv h01 fa0 fa1 fa2 fv hfit htk hf ga1 ga2 gb1 gb2 gc1 gc2
        go_wp2_with (go_at_call 119; go_must (refine (tvalue_any (HT.out.below (below_alloc wr (.cells #[.int .i64 op, .int .i64 v, .int .i64 na, .int .i64 nb, .int .i64 nc] 84))) op o1 o2 xa xb xc ba1 ba2 bb1 bb2 H01.out).mono ?_; rintro e w9 ⟨rfl, hb9⟩; obtain ⟨hup, hres⟩ := HUPD.out w9 _ (HFR.out.trans (Fr.of_below (below_of1 hb9))) (((below_of1 hb9).block S (lt_of_some HMAP.out)).trans HMAP.out) HV.out; have HRES := Lib.hid hres; clear hres hb9 hla hlb hlc))
        go_roundw
        case rel => exact ⟨j + 1, by omega, by go_num, HRES.out⟩
        case measure => simp [intOf]; omega
    · obtain rfl : j = P.length := by omega
      rw [List.take_length] at hmap hall
      have hii : i ∈ P := by rw [← HP.out]; exact parts_self hw
      have hl := look_vents (f := fV T inp) (ks := P) (by have := HPL2.out P.length; rwa [HP.out, List.take_length] at this) i (by have := HIL.out; have := HSZ.out; omega) wr hmap
      rw [if_pos hii] at hl
      rcases hv : vAt T inp i with _ | y
      · exact absurd hv (hall i hii)
      · have hfy : fV T inp i = y := by unfold fV; rw [hv]; rfl
        rw [hfy] at hl
        have HRES : Hid (evalF T inp i = (y, 0)) := by show _ = _; rw [HEV.out, hv]
        clear hmap hall hfr hii hv hfy
        go_wp2
        go_ret2
        rw [HRES.out]
        exact ⟨rfl, HBW.out⟩
theorem eval_any (hb : Tb B0 w p m A c' T) (hw : TWf T) (hin : SlI w w.heap.size A2 c2 inp) (i : Int) :
    Calls Try.prog 58 #[.pointer (some ⟨p, 0, none⟩), .int .i64 i, .slice A2 inp.length c2] w (EvRet w (evalF T inp i)) := by
  rcases hn : nodeAt T i with _ | t
  · have : evalF T inp i = (0, 1) := by unfold evalF; rw [hn]
    rw [this]
    exact eval_no hb (nodeAt_none.1 hn)
  · obtain ⟨k, rfl, hk⟩ := nodeAt_some hn
    exact eval_yes hb hw hin hk
end
end Go.Proofs.Ytgmcajojigedaaa
