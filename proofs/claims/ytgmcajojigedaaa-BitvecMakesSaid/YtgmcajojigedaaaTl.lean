/- The values of the nodes of a table: plain laws. -/
import Derived.Test.YtgmcajojigedaaaTk
set_option linter.unusedSimpArgs false
set_option linter.unusedVariables false
namespace Go.Proofs.Ytgmcajojigedaaa

def leafV (wd : Int) (inp : List Int) (t : Tm) : Option Int :=
  if (inp.length : Int) ≤ t.v then none
  else if t.op = 0 ∧ wrapW wd (inp.getD t.v.toNat 0) ≠ inp.getD t.v.toNat 0 then none
  else if t.op = 1 ∧ inp.getD t.v.toNat 0 ≠ 0 ∧ inp.getD t.v.toNat 0 ≠ 1 then none
  else some (inp.getD t.v.toNat 0)
def argV (vs : Nat → Option Int) (s x : Int) : Option Int := if s = -1 then some 0 else vs x.toNat
def nodeV (wd : Int) (inp : List Int) (vs : Nat → Option Int) (t : Tm) : Option Int :=
  match formF t.op with
  | some ((s0, s1, s2), _) => (argV vs s0 t.a).bind fun a => (argV vs s1 t.b).bind fun b => (argV vs s2 t.c).bind fun c => some (opV wd t.op a b c)
  | none => if t.op = 0 ∨ t.op = 1 then leafV wd inp t else some t.v
def vF (T : TS) (inp : List Int) : Nat → Nat → Option Int
  | 0, _ => none
  | k + 1, x => if x = k then (match T.nodes[k]? with | some t => nodeV T.width inp (vF T inp k) t | none => none) else vF T inp k x
/-- The value of a node. -/
def vAt (T : TS) (inp : List Int) (k : Nat) : Option Int := vF T inp (k + 1) k
section
variable {T : TS} {inp : List Int} {i : Nat}
theorem vF_at : ∀ (m x : Nat), x < m → vF T inp m x = vAt T inp x
  | 0, _, h => by omega
  | m + 1, x, h => by
    by_cases e : x = m
    · subst e; rfl
    · rw [vF, if_neg e]; exact vF_at m x (by omega)
theorem vAt_eq {k : Nat} {t : Tm} (hk : T.nodes[k]? = some t) : vAt T inp k = nodeV T.width inp (vF T inp k) t := by
  unfold vAt; rw [vF, if_pos rfl, hk]
theorem argV_eq (hw : TWf T) {k : Nat} {t : Tm} (hk : T.nodes[k]? = some t) {s x : Int} (h : argOk ⟨T.width, T.nodes.take k⟩ s x = true) : argV (vF T inp k) s x = argV (vAt T inp) s x := by
  unfold argV
  split
  · rfl
  · rename_i hs
    obtain ⟨j, t', rfl, hj, _⟩ := argOk_node h hs
    have := (List.getElem?_eq_some_iff.1 hj).1
    rw [List.length_take] at this
    exact vF_at _ _ (by rw [Int.toNat_natCast]; omega)
theorem vAt_op (hw : TWf T) {k : Nat} {t : Tm} (hk : T.nodes[k]? = some t) {s0 s1 s2 s : Int} (hf : formF t.op = some ((s0, s1, s2), s)) :
    vAt T inp k = (argV (vAt T inp) s0 t.a).bind fun a => (argV (vAt T inp) s1 t.b).bind fun b => (argV (vAt T inp) s2 t.c).bind fun c => some (opV T.width t.op a b c) := by
  obtain ⟨h0, h1, h2, _⟩ := fits_args_some (hw.fit k t hk) hf
  rw [vAt_eq hk, nodeV, hf]
  dsimp only
  rw [argV_eq hw hk h0, argV_eq hw hk h1, argV_eq hw hk h2]
theorem vAt_leaf {k : Nat} {t : Tm} (hk : T.nodes[k]? = some t) (hf : formF t.op = none) : vAt T inp k = if t.op = 0 ∨ t.op = 1 then leafV T.width inp t else some t.v := by
  rw [vAt_eq hk, nodeV, hf]
theorem arg_mem {k x : Nat} (h : x ∈ argsAt T k) : ∃ t s0 s1 s2 s, T.nodes[k]? = some t ∧ formF t.op = some ((s0, s1, s2), s) ∧ ((s0 ≠ -1 ∧ x = t.a.toNat) ∨ (s1 ≠ -1 ∧ x = t.b.toNat) ∨ (s2 ≠ -1 ∧ x = t.c.toNat)) := by
  unfold argsAt at h
  rcases hk : T.nodes[k]? with _ | t
  · rw [hk] at h; cases h
  · rw [hk] at h
    dsimp only at h
    unfold argsL at h
    rcases hf : formF t.op with _ | ⟨⟨s0, s1, s2⟩, s⟩
    · rw [hf] at h; cases h
    · rw [hf] at h
      dsimp only at h
      have key : ∀ (s y : Int), x ∈ (if s = -1 then [] else [y.toNat]) → s ≠ -1 ∧ x = y.toNat := fun s y hx => by
        split at hx
        · cases hx
        · rename_i hs; simp at hx; exact ⟨hs, hx⟩
      refine ⟨t, s0, s1, s2, s, rfl, hf, ?_⟩
      rcases List.mem_append.1 h with h | h
      · exact .inl (key _ _ h)
      · rcases List.mem_append.1 h with h | h
        · exact .inr (.inl (key _ _ h))
        · exact .inr (.inr (key _ _ h))
theorem vAt_arg_none (hw : TWf T) {k x : Nat} (hx : x ∈ argsAt T k) (hn : vAt T inp x = none) : vAt T inp k = none := by
  obtain ⟨t, s0, s1, s2, s, hk, hf, h⟩ := arg_mem hx
  rw [vAt_op hw hk hf]
  rcases h with ⟨hs, rfl⟩ | ⟨hs, rfl⟩ | ⟨hs, rfl⟩
  · rw [show argV (vAt T inp) s0 t.a = none from by unfold argV; rw [if_neg hs]; exact hn]; rfl
  · rw [show argV (vAt T inp) s1 t.b = none from by unfold argV; rw [if_neg hs]; exact hn]
    cases argV (vAt T inp) s0 t.a <;> rfl
  · rw [show argV (vAt T inp) s2 t.c = none from by unfold argV; rw [if_neg hs]; exact hn]
    cases argV (vAt T inp) s0 t.a <;> cases argV (vAt T inp) s1 t.b <;> rfl
theorem vAt_fail (hw : TWf T) : ∀ (j x : Nat), mK T i j x = true → vAt T inp x = none → vAt T inp i = none
  | 0, x, h, hn => by simp [mK] at h; subst h; exact hn
  | j + 1, x, h, hn => by
    rw [mK, Bool.or_eq_true, Bool.and_eq_true] at h
    rcases h with h | ⟨h1, h2⟩
    · exact vAt_fail hw j x h hn
    · exact vAt_fail hw j _ h1 (vAt_arg_none hw (List.contains_iff_mem.1 h2) hn)

/-! ### The sorts of values -/
def okV (wd s v : Int) : Prop := (s = 0 → inW wd v) ∧ (s = 1 → v = 0 ∨ v = 1)
theorem okV_bd {wd s v : Int} (h : okV wd s v) (hs : s = 0 ∨ s = 1) : -128 ≤ v ∧ v ≤ 128 := by
  rcases hs with rfl | rfl
  · have := h.1 rfl
    have h2 := wrapW_small wd v
    rw [wrapW_of_in this] at h2
    omega
  · have := h.2 rfl; omega
theorem bI_01 (b : Bool) : bI b = 0 ∨ bI b = 1 := by cases b <;> simp [bI]
theorem quoW_any {wd : Int} (h1 : 2 ≤ wd) (h2 : wd ≤ 8) (x y : Int) : inW wd (quoW wd x y) := by
  unfold quoW
  split
  · have := wrapW_in 0 h1 h2; rwa [wrapW_zero] at this
  · exact wrapW_in _ h1 h2
theorem remW_any {wd : Int} (h1 : 2 ≤ wd) (h2 : wd ≤ 8) (x y : Int) : inW wd (remW wd x y) := by
  unfold remW
  split
  · exact wrapW_in _ h1 h2
  · exact tmod_in (wrapW_in _ h1 h2)
theorem formF_cases {op : Int} {f : (Int × Int × Int) × Int} (h : formF op = some f) :
    (op = 4 ∧ f = ((0, -1, -1), 0)) ∨ ((op = 5 ∨ op = 6 ∨ op = 7 ∨ op = 8 ∨ op = 9) ∧ f = ((0, 0, -1), 0)) ∨ (op = 10 ∧ f = ((1, 0, 0), 0)) ∨ (op = 11 ∧ f = ((1, -1, -1), 1)) ∨
    ((op = 12 ∨ op = 13 ∨ op = 14) ∧ f = ((1, 1, -1), 1)) ∨ (op = 15 ∧ f = ((1, 1, 1), 1)) ∨ ((op = 16 ∨ op = 17) ∧ f = ((0, 0, -1), 1)) := by
  obtain ⟨h1, h2⟩ := formF_lt h
  obtain rfl | rfl | rfl | rfl | rfl | rfl | rfl | rfl | rfl | rfl | rfl | rfl | rfl | rfl : op = 4 ∨ op = 5 ∨ op = 6 ∨ op = 7 ∨ op = 8 ∨ op = 9 ∨ op = 10 ∨ op = 11 ∨ op = 12 ∨ op = 13 ∨ op = 14 ∨ op = 15 ∨ op = 16 ∨ op = 17 := by omega
  all_goals (have := Option.some.inj (h.symm.trans (by rfl : formF _ = some _)); subst this; simp)
theorem formF_sort {op : Int} {a : Int × Int × Int} {s : Int} (h : formF op = some (a, s)) : sortF op = s := by
  have h1 := formF_lt h
  unfold sortF
  rw [if_neg (by omega), h]
/-- The value of an operator has its sort. -/
theorem opV_ok {wd : Int} (h1 : 2 ≤ wd) (h2 : wd ≤ 8) {op s0 s1 s2 s a b c : Int} (hf : formF op = some ((s0, s1, s2), s)) (ha : okV wd s0 a) (hb : okV wd s1 b) (hc : okV wd s2 c) : okV wd s (opV wd op a b c) := by
  rcases formF_cases hf with ⟨rfl, h⟩ | ⟨h', h⟩ | ⟨rfl, h⟩ | ⟨rfl, h⟩ | ⟨h', h⟩ | ⟨rfl, h⟩ | ⟨h', h⟩
  all_goals (simp only [Prod.mk.injEq] at h; obtain ⟨⟨rfl, rfl, rfl⟩, rfl⟩ := h)
  · exact ⟨fun _ => wrapW_in _ h1 h2, fun h => by omega⟩
  · refine ⟨fun _ => ?_, fun h => by omega⟩
    rcases h' with rfl | rfl | rfl | rfl | rfl
    · exact wrapW_in _ h1 h2
    · exact wrapW_in _ h1 h2
    · exact wrapW_in _ h1 h2
    · exact quoW_any h1 h2 _ _
    · exact remW_any h1 h2 _ _
  · refine ⟨fun _ => ?_, fun h => by omega⟩
    show inW wd (if a = 1 then b else c)
    split
    · exact hb.1 rfl
    · exact hc.1 rfl
  · refine ⟨fun h => by omega, fun _ => ?_⟩
    show 1 - a = 0 ∨ 1 - a = 1
    have := ha.2 rfl; omega
  · refine ⟨fun h => by omega, fun _ => ?_⟩
    rcases h' with rfl | rfl | rfl <;> exact bI_01 _
  · refine ⟨fun h => by omega, fun _ => ?_⟩
    show (if a = 1 then b else c) = 0 ∨ (if a = 1 then b else c) = 1
    have := hb.2 rfl
    have := hc.2 rfl
    split <;> assumption
  · refine ⟨fun h => by omega, fun _ => ?_⟩
    rcases h' with rfl | rfl <;> exact bI_01 _
/-- What an operator does not need does not matter. -/
theorem opV_need {wd op s0 s1 s2 s a b c b' c' : Int} (hf : formF op = some ((s0, s1, s2), s)) (hb : s1 ≠ -1 → b = b') (hc : s2 ≠ -1 → c = c') : opV wd op a b c = opV wd op a b' c' := by
  rcases formF_cases hf with ⟨rfl, h⟩ | ⟨h', h⟩ | ⟨rfl, h⟩ | ⟨rfl, h⟩ | ⟨h', h⟩ | ⟨rfl, h⟩ | ⟨h', h⟩
  all_goals (simp only [Prod.mk.injEq] at h; obtain ⟨⟨rfl, rfl, rfl⟩, rfl⟩ := h)
  · rfl
  · rw [hb (by omega)]; rcases h' with rfl | rfl | rfl | rfl | rfl <;> rfl
  · rw [hb (by omega), hc (by omega)]
  · rfl
  · rw [hb (by omega)]; rcases h' with rfl | rfl | rfl <;> rfl
  · rw [hb (by omega), hc (by omega)]
  · rw [hb (by omega)]; rcases h' with rfl | rfl <;> rfl
theorem okV_none {wd v : Int} : okV wd (-1) v := ⟨fun h => by omega, fun h => by omega⟩
theorem leafV_ok {wd : Int} (h1 : 2 ≤ wd) (h2 : wd ≤ 8) {t : Tm} {v : Int} (ho : t.op = 0 ∨ t.op = 1) (h : leafV wd inp t = some v) : okV wd (sortF t.op) v ∧ t.v < inp.length ∧ v = inp.getD t.v.toNat 0 := by
  unfold leafV at h
  split at h
  · cases h
  split at h
  · cases h
  split at h
  · cases h
  rename_i g1 g2 g3
  cases h
  refine ⟨?_, by omega, rfl⟩
  rcases ho with ho | ho
  · rw [ho]
    refine ⟨fun _ => ?_, fun h => by rw [show sortF 0 = 0 from rfl] at h; omega⟩
    have : wrapW wd (inp.getD t.v.toNat 0) = inp.getD t.v.toNat 0 := by
      by_cases h : wrapW wd (inp.getD t.v.toNat 0) = inp.getD t.v.toNat 0
      · exact h
      · exact absurd ⟨ho, h⟩ g2
    rw [← this]; exact wrapW_in _ h1 h2
  · rw [ho]
    refine ⟨fun h => by rw [show sortF 1 = 1 from rfl] at h; omega, fun _ => ?_⟩
    by_cases h : inp.getD t.v.toNat 0 = 0
    · exact .inl h
    · by_cases h' : inp.getD t.v.toNat 0 = 1
      · exact .inr h'
      · exact absurd ⟨ho, h, h'⟩ g3
theorem fits_leaf {T : TS} {t : Tm} (h : fitsT T t = true) (hf : formF t.op = none) : (t.a = 0 ∧ t.b = 0 ∧ t.c = 0) ∧ (((t.op = 0 ∨ t.op = 1) ∧ 0 ≤ t.v ∧ t.v < 24) ∨ (t.op = 2 ∧ wrapW T.width t.v = t.v) ∨ (t.op = 3 ∧ (t.v = 0 ∨ t.v = 1))) := by
  unfold fitsT at h
  rw [hf] at h
  dsimp only at h
  unfold leafOk at h
  rw [Bool.and_eq_true] at h
  obtain ⟨h1, h2⟩ := h
  refine ⟨of_decide_eq_true h1, ?_⟩
  split at h2
  · exact .inl ⟨‹_›, of_decide_eq_true h2⟩
  · split at h2
    · exact .inr (.inl ⟨‹_›, of_decide_eq_true h2⟩)
    · split at h2
      · exact .inr (.inr ⟨‹_›, of_decide_eq_true h2⟩)
      · cases h2
theorem vAt_ok (hw : TWf T) : ∀ (n k : Nat), k < n → ∀ {t : Tm} {v : Int}, T.nodes[k]? = some t → vAt T inp k = some v → okV T.width (sortF t.op) v
  | 0, _, h, _, _, _, _ => by omega
  | n + 1, k, hkn, t, v, hk, hv => by
    rcases hf : formF t.op with _ | ⟨⟨s0, s1, s2⟩, s⟩
    · rw [vAt_leaf hk hf] at hv
      obtain ⟨_, h⟩ := fits_leaf (hw.fit k t hk) hf
      split at hv
      · exact (leafV_ok hw.w1 hw.w2 ‹_› hv).1
      · cases hv
        rcases h with ⟨h, _⟩ | ⟨h, h'⟩ | ⟨h, h'⟩
        · exact absurd h ‹_›
        · rw [h]
          refine ⟨fun _ => ?_, fun h => by rw [show sortF 2 = 0 from rfl] at h; omega⟩
          dsimp only at h'
          rw [← h']; exact wrapW_in _ hw.w1 hw.w2
        · rw [h]
          exact ⟨fun h => by rw [show sortF 3 = 1 from rfl] at h; omega, fun _ => h'⟩
    · rw [vAt_op hw hk hf] at hv
      obtain ⟨h0, h1, h2, _⟩ := fits_args_some (hw.fit k t hk) hf
      have key : ∀ (so y x : Int), argOk ⟨T.width, T.nodes.take k⟩ so y = true → argV (vAt T inp) so y = some x → okV T.width so x := fun so y x ho hx => by
        by_cases hs : so = -1
        · subst hs; exact okV_none
        · obtain ⟨j, t', rfl, hj, hsort⟩ := argOk_node ho hs
          have hjl := (List.getElem?_eq_some_iff.1 hj).1
          rw [List.length_take] at hjl
          have hj' : T.nodes[j]? = some t' := by rw [List.getElem?_take_of_lt (by omega)] at hj; exact hj
          unfold argV at hx
          rw [if_neg hs, Int.toNat_natCast] at hx
          rw [← hsort]
          exact vAt_ok hw n j (by omega) hj' hx
      rcases e0 : argV (vAt T inp) s0 t.a with _ | a
      · rw [e0] at hv; cases hv
      rcases e1 : argV (vAt T inp) s1 t.b with _ | b
      · rw [e0, e1] at hv; cases hv
      rcases e2 : argV (vAt T inp) s2 t.c with _ | c
      · rw [e0, e1, e2] at hv; cases hv
      rw [e0, e1, e2] at hv
      cases hv
      rw [formF_sort hf]
      exact opV_ok hw.w1 hw.w2 hf (key _ _ _ h0 e0) (key _ _ _ h1 e1) (key _ _ _ h2 e2)
theorem sortF_01 (op : Int) : sortF op = 0 ∨ sortF op = 1 := by
  unfold sortF
  split
  · exact .inr rfl
  · rcases hf : formF op with _ | ⟨a, s⟩
    · exact .inl rfl
    · dsimp only
      rcases formF_cases hf with ⟨_, h⟩ | ⟨_, h⟩ | ⟨_, h⟩ | ⟨_, h⟩ | ⟨_, h⟩ | ⟨_, h⟩ | ⟨_, h⟩ <;> cases h <;> simp
theorem vAt_bd (hw : TWf T) {k : Nat} {v : Int} (hv : vAt T inp k = some v) : -128 ≤ v ∧ v ≤ 128 := by
  rcases hk : T.nodes[k]? with _ | t
  · unfold vAt at hv; rw [vF, if_pos rfl, hk] at hv; cases hv
  · exact okV_bd (vAt_ok hw (k + 1) k (Nat.lt_succ_self k) hk hv) (sortF_01 _)

/-! ### The list of parts -/
theorem parts_sorted : (partsN T i).Pairwise (· < ·) := List.Pairwise.sublist List.filter_sublist List.pairwise_lt_range
theorem parts_before {j x k : Nat} (hk : (partsN T i)[j]? = some k) (hx : x ∈ partsN T i) (hlt : x < k) : x ∈ (partsN T i).take j := by
  obtain ⟨n, hn⟩ := List.getElem?_of_mem hx
  obtain ⟨hj, ej⟩ := List.getElem?_eq_some_iff.1 hk
  obtain ⟨hn', en⟩ := List.getElem?_eq_some_iff.1 hn
  by_cases h : n < j
  · have : (List.take j (partsN T i))[n]? = some x := by rw [List.getElem?_take_of_lt h]; exact hn
    exact List.mem_of_getElem? this
  · rcases Nat.lt_or_ge j n with h' | h'
    · have := List.pairwise_iff_getElem.1 (parts_sorted (T := T) (i := i)) j n hj hn' h'
      omega
    · have : j = n := by omega
      subst this; omega
theorem parts_fresh {j k : Nat} (hk : (partsN T i)[j]? = some k) : k ∉ (partsN T i).take j := by
  intro h
  obtain ⟨n, hn⟩ := List.getElem?_of_mem h
  have hnl := (List.getElem?_eq_some_iff.1 hn).1
  rw [List.length_take] at hnl
  rw [List.getElem?_take_of_lt (by omega)] at hn
  obtain ⟨hj, ej⟩ := List.getElem?_eq_some_iff.1 hk
  obtain ⟨hn', en⟩ := List.getElem?_eq_some_iff.1 hn
  have := List.pairwise_iff_getElem.1 (parts_sorted (T := T) (i := i)) n j hn' hj (by omega)
  omega
theorem parts_le {k : Nat} (hk : k ∈ partsN T i) : k ≤ i ∧ mF T i k = true := by
  obtain ⟨h1, h2⟩ := List.mem_filter.1 hk
  exact ⟨by have := List.mem_range.1 h1; omega, h2⟩
theorem parts_self (hw : TWf T) : i ∈ partsN T i := List.mem_filter.2 ⟨List.mem_range.2 (Nat.lt_succ_self i), mF_self hw⟩
theorem parts_args (hw : TWf T) {k x : Nat} (hk : k ∈ partsN T i) (hx : x ∈ argsAt T k) : x ∈ partsN T i := by
  obtain ⟨h1, h2⟩ := parts_le hk
  exact List.mem_filter.2 ⟨List.mem_range.2 (by have := args_lt hw hx; omega), mF_args hw h1 h2 hx⟩
theorem parts_fail (hw : TWf T) {k : Nat} (hk : k ∈ partsN T i) (hn : vAt T inp k = none) : vAt T inp i = none := vAt_fail hw _ k (parts_le hk).2 hn
end
/-- What Eval returns. -/
def evalF (T : TS) (inp : List Int) (i : Int) : Int × Int := match nodeAt T i with
  | some _ => match vAt T inp i.toNat with
    | some v => (v, 0)
    | none => (0, 2)
  | none => (0, 1)
end Go.Proofs.Ytgmcajojigedaaa
