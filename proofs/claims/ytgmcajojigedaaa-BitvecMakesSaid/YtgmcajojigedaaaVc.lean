/- Values that do not depend on other inputs: plain laws; Clone of a list of ints. -/
import Derived.Test.YtgmcajojigedaaaVa
set_option linter.unusedSimpArgs false
set_option linter.unusedVariables false
namespace Go.Proofs.Ytgmcajojigedaaa
open Go.RowKit

section
variable {T : TS} {inp mixed : List Int} {i : Nat}
def agreeAt (inp mixed : List Int) (n : Int) : Prop := n < mixed.length ∧ mixed.getD n.toNat 0 = inp.getD n.toNat 0
theorem argV_same {L : List Nat} {s x y : Int} (hl : s ≠ -1 → x.toNat ∈ L) (ih : ∀ k ∈ L, ∀ v, vAt T inp k = some v → vAt T mixed k = some v) (h : argV (vAt T inp) s x = some y) : argV (vAt T mixed) s x = some y := by
  unfold argV at h ⊢
  split
  · rename_i hs; rw [if_pos hs] at h; exact h
  · rename_i hs; rw [if_neg hs] at h; exact ih _ (hl hs) _ h
theorem leaf_same {wd : Int} {t : Tm} {v : Int} (ha : agreeAt inp mixed t.v) (h : leafV wd inp t = some v) : leafV wd mixed t = some v := by
  obtain ⟨h1, h2⟩ := ha
  unfold leafV at h ⊢
  rw [if_neg (by omega), h2]
  split at h
  · cases h
  · exact h
theorem vAt_same (hw : TWf T) (hag : ∀ k ∈ partsN T i, ∀ n, isInp T k = some n → agreeAt inp mixed n) :
    ∀ m k, k < m → k ∈ partsN T i → ∀ v, vAt T inp k = some v → vAt T mixed k = some v
  | 0, _, h, _, _, _ => by omega
  | m + 1, k, hkm, hk, v, hv => by
    rcases ht : T.nodes[k]? with _ | t
    · unfold vAt at hv; rw [vF, if_pos rfl, ht] at hv; cases hv
    · rcases hf : formF t.op with _ | ⟨⟨s0, s1, s2⟩, s⟩
      · rw [vAt_leaf ht hf] at hv ⊢
        split at hv
        · rename_i ho
          rw [if_pos ho]
          exact leaf_same (hag k hk t.v (by unfold isInp; rw [ht]; exact if_pos ho)) hv
        · rename_i ho
          rw [if_neg ho]; exact hv
      · rw [vAt_op hw ht hf] at hv ⊢
        obtain ⟨a, ha, hv⟩ := Option.bind_eq_some_iff.1 hv
        obtain ⟨b, hb, hv⟩ := Option.bind_eq_some_iff.1 hv
        obtain ⟨c, hc, hv⟩ := Option.bind_eq_some_iff.1 hv
        have ih : ∀ x ∈ argsAt T k, ∀ v, vAt T inp x = some v → vAt T mixed x = some v := fun x hx v hv =>
          vAt_same hw hag m x (by have := args_lt hw hx; omega) (parts_args hw hk hx) v hv
        have hm : ∀ x, x ∈ (if s0 = -1 then [] else [t.a.toNat]) ++ ((if s1 = -1 then [] else [t.b.toNat]) ++ (if s2 = -1 then [] else [t.c.toNat])) → x ∈ argsAt T k := fun x hx => by
          unfold argsAt; rw [ht]; dsimp only; unfold argsL; rw [hf]; exact hx
        rw [argV_same (L := argsAt T k) (fun hs => hm _ (by rw [if_neg hs]; simp)) ih ha, argV_same (L := argsAt T k) (fun hs => hm _ (by rw [if_neg hs]; simp)) ih hb, argV_same (L := argsAt T k) (fun hs => hm _ (by rw [if_neg hs]; simp)) ih hc]
        exact hv
theorem isInp_fit (hw : TWf T) {k : Nat} {n : Int} (h : isInp T k = some n) : ∃ t, T.nodes[k]? = some t ∧ (t.op = 0 ∨ t.op = 1) ∧ t.v = n ∧ formF t.op = none ∧ 0 ≤ n ∧ n < 24 := by
  unfold isInp at h
  rcases ht : T.nodes[k]? with _ | t
  · rw [ht] at h; cases h
  · rw [ht] at h
    dsimp only at h
    split at h
    · rename_i ho
      have hv := Option.some.inj h
      have hf : formF t.op = none := by rcases ho with e | e <;> (rw [e]; rfl)
      have hfit := hw.fit k t ht
      unfold fitsT at hfit
      rw [hf] at hfit
      dsimp only at hfit
      unfold leafOk at hfit
      rw [if_pos ho, Bool.and_eq_true] at hfit
      have := of_decide_eq_true hfit.2
      exact ⟨t, rfl, ho, hv, hf, by omega, by omega⟩
    · cases h
theorem needs_lt (hw : TWf T) {v n : Int} (hv : vAt T inp i = some v) (hn : n ∈ inputsF T (partsN T i)) : 0 ≤ n ∧ n < 24 ∧ n < inp.length := by
  obtain ⟨k, hk, hi⟩ := (inputsF_mem T _ n).1 hn
  obtain ⟨t, ht, ho, rfl, hf, h0, h1⟩ := isInp_fit hw hi
  refine ⟨h0, h1, ?_⟩
  rcases Int.lt_or_le t.v inp.length with h | h
  · exact h
  · exfalso
    have hnone : vAt T inp k = none := by
      rw [vAt_leaf ht hf, if_pos ho]; unfold leafV; rw [if_pos h]
    rw [parts_fail hw hk hnone] at hv
    cases hv
theorem val_same (hw : TWf T) {v : Int} (hv : vAt T inp i = some v) (hag : ∀ n ∈ inputsF T (partsN T i), agreeAt inp mixed n) : vAt T mixed i = some v :=
  vAt_same hw (fun k hk n hi => hag n ((inputsF_mem T _ n).2 ⟨k, hk, hi⟩)) (i + 1) i (Nat.lt_succ_self i) (parts_self hw) v hv
end

/-! ### The mixed inputs -/
def padTo (n : Nat) (xs : List Int) : List Int := xs ++ List.replicate (n + 1 - xs.length) 6144
theorem padTo_length (n : Nat) (xs : List Int) : n < (padTo n xs).length := by unfold padTo; simp; omega
theorem padTo_done {n : Nat} {xs : List Int} (h : n < xs.length) : padTo n xs = xs := by unfold padTo; rw [show n + 1 - xs.length = 0 by omega]; simp
theorem padTo_step {n : Nat} {xs : List Int} (h : xs.length ≤ n) : padTo n (xs ++ [6144]) = padTo n xs := by
  unfold padTo
  rw [List.append_assoc, show [(6144 : Int)] = List.replicate 1 6144 from rfl, List.replicate_append_replicate]
  congr 2
  simp; omega
theorem padTo_old {n : Nat} {xs : List Int} {j : Nat} (h : j < xs.length) : (padTo n xs).getD j 0 = xs.getD j 0 := by
  unfold padTo
  simp [List.getD_eq_getElem?_getD, List.getElem?_append_left h]
def mix1 (inp : List Int) (xs : List Int) (n : Int) : List Int := (padTo n.toNat xs).set n.toNat (inp.getD n.toNat 0)
def mixK (inp other : List Int) (needs : List Int) (j : Nat) : List Int := (needs.take j).foldl (mix1 inp) other
theorem mixK_succ {inp other needs : List Int} {j : Nat} {n : Int} (h : needs[j]? = some n) : mixK inp other needs (j + 1) = mix1 inp (mixK inp other needs j) n := by
  unfold mixK
  rw [List.take_add_one, h, List.foldl_append]; rfl
theorem mix1_agree {inp xs : List Int} {n x : Int} (hx : 0 ≤ x) (hn : 0 ≤ n) (h : agreeAt inp xs x ∨ x = n) : agreeAt inp (mix1 inp xs n) x := by
  have hl : (mix1 inp xs n).length = (padTo n.toNat xs).length := by unfold mix1; simp
  have hp := padTo_length n.toNat xs
  have hpx : xs.length ≤ (padTo n.toNat xs).length := by unfold padTo; simp
  rcases h with h | rfl
  · refine ⟨by rw [hl]; have := h.1; omega, ?_⟩
    unfold mix1
    rw [List.getD_eq_getElem?_getD, List.getElem?_set]
    split
    · rename_i e
      have : x = n := by omega
      subst this
      first | rfl | (rw [if_pos hp]; rfl)
    · rw [← List.getD_eq_getElem?_getD, padTo_old (by have := h.1; omega)]; exact h.2
  · refine ⟨by rw [hl]; omega, ?_⟩
    unfold mix1
    rw [List.getD_eq_getElem?_getD, List.getElem?_set, if_pos rfl, if_pos hp]; rfl
theorem mixK_agree {inp other needs : List Int} (h0 : ∀ n ∈ needs, 0 ≤ n) : ∀ j, j ≤ needs.length → ∀ n ∈ needs.take j, agreeAt inp (mixK inp other needs j) n
  | 0, _, n, hn => by simp at hn
  | j + 1, hj, n, hn => by
    have hx : needs[j]? = some needs[j] := List.getElem?_eq_getElem (by omega)
    rw [mixK_succ hx]
    have hjm : needs[j] ∈ needs := List.getElem_mem _
    rw [List.take_add_one, hx] at hn
    rcases List.mem_append.1 hn with h | h
    · exact mix1_agree (h0 n (List.mem_of_mem_take h)) (h0 _ hjm) (.inl (mixK_agree h0 j (by omega) n h))
    · simp at h
      exact mix1_agree (h0 n (h ▸ hjm)) (h0 _ hjm) (.inr h)
theorem mix1_len {inp xs : List Int} {n : Int} (h24 : n < 24) {M : Nat} (hM : 24 ≤ M) (h : xs.length ≤ M) : (mix1 inp xs n).length ≤ M := by
  unfold mix1 padTo; simp; omega
theorem mixK_len {inp other needs : List Int} (h24 : ∀ n ∈ needs, n < 24) {M : Nat} (hM : 24 ≤ M) (h : other.length ≤ M) : ∀ j, j ≤ needs.length → (mixK inp other needs j).length ≤ M
  | 0, _ => by simpa [mixK] using h
  | j + 1, hj => by
    have hx : needs[j]? = some needs[j] := List.getElem?_eq_getElem (by omega)
    rw [mixK_succ hx]
    exact mix1_len (h24 _ (List.getElem_mem _)) hM (mixK_len h24 hM h j (by omega))

/-! ### Clone -/
theorem clone_own {w : World} {B0 : Nat} {A : Option Addr} {c : Nat} {xs : List Int} (hs : SlI w B0 A c xs) (hbig : xs.length * 8 ≤ 140737488355328) :
    Calls Try.prog 89 #[.slice A xs.length c] w fun e w' => ∃ v, e = .returned v ∧ OwnI w' w.heap.size v xs ∧ Below w.heap.size w w' := by
  rcases A with _ | ⟨b, o, q⟩
  · refine (Try.slices_Clone_int_nil xs.length c w).mono ?_
    rintro e w' ⟨rfl, rfl⟩
    have : xs = [] := by
      rcases xs with _ | ⟨x, r⟩
      · rfl
      · obtain ⟨b, o, h, _⟩ := hs.2.2 (by simp); cases h
    subst this
    exact ⟨_, rfl, OwnOf.nil _ _, Below.refl _ _⟩
  · by_cases hn : 0 < xs.length
    · obtain ⟨b', o', he, _, hc⟩ := hs.2.2 hn
      cases he
      refine (Try.slices_Clone_int b o xs.length c xs w (Nat.le_refl _) hbig (fun j hj => ?_)).mono ?_
      · rw [hc j xs[j] (List.getElem?_eq_getElem hj), List.getD_eq_getElem?_getD, List.getElem?_eq_getElem hj]; rfl
      · rintro e w' ⟨v', rfl, h1, -, h2⟩
        rw [List.take_length] at h1
        exact ⟨v', rfl, h1, h2⟩
    · have : xs = [] := List.eq_nil_of_length_eq_zero (by omega)
      subst this
      refine (Try.slices_Clone_int_zero ⟨b, o, q⟩ c w).mono ?_
      rintro e w' ⟨v', rfl, h1, -, h2⟩
      exact ⟨v', rfl, h1, h2⟩
theorem own_some {w : World} {B : Nat} {v : Value} {xs : List Int} (h : OwnI w B v xs) (hn : 0 < xs.length) : ∃ g c, v = .slice (some ⟨g, 0, none⟩) xs.length c ∧ B ≤ g := by
  rcases h.2 with ⟨_, h0⟩ | ⟨g, cap, cur, rfl, h1, _⟩
  · omega
  · exact ⟨g, cap, rfl, h1⟩
end Go.Proofs.Ytgmcajojigedaaa
