/- The row's step for laws with slices: the arguments read behind the call as before, since nothing that was there has turned; slices that read as lists. -/
import Derived.Test.YtgmcajojigedaaaJa
import Derived.Test.YtgmcajojigedaaaBase
import Derived.ChangeSame
import Derived.ChangeStays
import Derived.ChangeBook
import Derived.Deep.Grids
import Derived.ProofKit
import Derived.OpenShut
set_option linter.unusedSimpArgs false
set_option linter.unusedVariables false
namespace Go.Proofs.Ytgmcajojigedaaa
open Go.ChangeShapes Go.WideShapes Go.ChangeAt Go.RowKit
section
variable {H : Type} {enc : TypeId × Value → H} {P : Program}
theorem post_of_below {f : Func} {s : ChangeSpec} {apart fresh handsOn again : Bool} {W W' : World} {args : Array Value} {v : Value} {ds gs : List (DataW H)} {before pa pv : List MemPlace}
    (hW : DataW.Whole enc P f.params.toList s.vars apart W args.toList ds gs before)
    (hres : ∀ (b : Nat) (sp : Nat → Bool) (hd : Bool), DataW.TrodAll enc P W' b sp hd f.resultTypes.toList (v.resultList f.resultTypes.size) (s.fn H (ds ++ gs)).results [])
    (hargs : ∀ sp : Nat → Bool, (∀ p ∈ before, sp p.block = true) → DataW.TrodAll enc P W' 0 sp true f.params.toList args.toList (s.fn H (ds ++ gs)).args pa)
    (hvars : ∀ sp : Nat → Bool, (∀ p ∈ before, sp p.block = true) → DataW.TrodVars enc P W' sp s.vars (s.fn H (ds ++ gs)).vars pv)
    (hps : before = pa ++ pv) (hb : Below W.heap.size W W')
    (hok : ∀ (j : Nat) (t : TypeId) (r : Value), f.resultTypes[j]? = some t → (v.resultList f.resultTypes.size)[j]? = some r → Value.okWide P W' .any 0 t r) :
    s.post enc P f apart fresh handsOn again W args v W' := by
  have hlt : ∀ p ∈ before, p.block < W.heap.size := fun p hp => hW.lt p hp
  have hold : ∀ p ∈ before, (fun b => decide (b < W.heap.size)) p.block = true := fun p hp => by simpa using hlt p hp
  refine ⟨ds, gs, before, [], pa, pv, hW, hres _ _ _, hargs _ hold, hvars _ hold, World.keptBut_mono (fun p hp => ⟨hp, ?_⟩) (hb.frame (· ∈ before)), fun _ => ?_⟩
  · rw [hps, List.mem_append] at hp
    exact Or.inr hp
  · obtain ⟨_, _, _, _, _, hz, hn⟩ := hW
    refine ⟨hok, _, _, ([] ++ pa) ++ pv, ⟨[] ++ pa, pv, trodAll_append (hargs _ (fun _ _ => rfl)) (hres _ _ _), hvars _ (fun _ _ => rfl), rfl, ?_, ?_⟩, ?_⟩
    · intro b off hp
      have hin : MemPlace.cell b off ∈ before := by rw [hps]; simpa using hp
      rw [hb.frozen (hlt _ hin)]
      exact hz b off hin
    · intro ha
      have := hn ha
      rw [hps] at this
      simpa using this
    · intro p hp _
      rw [hps]
      simpa using hp

/-- What the arguments lead to reads in the later world as it did. -/
theorem trodAll_stays (hl : laidOutB P = true) {W W' : World} : ∀ {ts : List TypeId} {vs : List Value} {ds : List (DataW H)} {ps : List MemPlace} {sp : Nat → Bool},
    (∀ t ∈ ts, P.readableRec t = true ∧ t < P.types.size) → DataW.TrodAll enc P W 0 (fun _ => true) true ts vs ds ps → (∀ p ∈ ps, W.sameAt W' p) → (∀ p ∈ ps, sp p.block = true) →
    DataW.TrodAll enc P W' 0 sp true ts vs ds ps
  | [], vs, ds, ps, sp, _, h, _, _ => by cases vs <;> first | exact h | (cases ds <;> exact h)
  | t :: ts, vs, ds, ps, sp, ht, h, hsame, hs => by
    obtain ⟨v, vs1, d, ds1, p, q, rfl, rfl, rfl, ⟨n, hn⟩, hr⟩ := trodAll_cons h
    have h1 := ht t (by simp)
    exact trodAll_cons_mk ⟨n, DataW.trod_stays (kids_book hl h1.1) (book_sized h1.1) (fun h => by cases h) ⟨h1.2, book_self t⟩ hn (fun x hx => hsame x (List.mem_append_left _ hx)) (fun x hx => hs x (List.mem_append_left _ hx))⟩
      (trodAll_stays hl (fun t' h' => ht t' (List.mem_cons_of_mem _ h')) hr (fun x hx => hsame x (List.mem_append_right _ hx)) (fun x hx => hs x (List.mem_append_right _ hx)))
end

section
variable {H : Type} {enc : TypeId × Value → H} {W : World}
theorem open_slI {v : Value} {d : DataW H} {p : List MemPlace} (h : DataW.Trod enc Try.prog W 0 (fun _ => true) true 24 v d p) (hc : v.cells.toList = [v]) : ∃ A c xs, v = .slice A xs.length c ∧ SlI W W.heap.size A c xs := by
  obtain ⟨n, hn⟩ := h
  rw [hc] at hn
  rcases open_ints Try.underlying24 Try.underlying3 (by kernel_rfl) hn with ⟨hcs, _⟩ | ⟨a, len, cap, zs, hcs, _, hl, hm, hz, _, hcell, _⟩
  · simp at hcs
    subst hcs
    exact ⟨none, 0, [], rfl, SlOf.nil _ _⟩
  · simp at hcs hz
    subst hcs
    have e : (zs.take len).length = len := by rw [List.length_take]; omega
    refine ⟨some a, cap, zs.take len, by rw [e], by rw [e]; exact hl, hm, fun hn => ?_⟩
    rw [e] at hn
    obtain ⟨b, o, m⟩ := a
    have hc0 : ∀ k x, (zs.take len)[k]? = some x → W.cell? (Addr.add ⟨b, o, m⟩ k) = some (.int .i64 x) := fun k x hk => by
      have hk1 : k < len := by have := (List.getElem?_eq_some_iff.1 hk).1; omega
      rw [List.getElem?_take_of_lt hk1] at hk
      have := hcell k (by omega)
      rw [List.getD_eq_getElem?_getD, hk] at this
      exact this
    have hm0 : m = none := by
      have h0 := hcell 0 (by omega)
      cases m with
      | none => rfl
      | some s =>
        simp [Addr.add, World.cell?] at h0
        split at h0 <;> cases h0
    subst hm0
    refine ⟨b, o, rfl, .inl ?_, fun k x hk => by have := hc0 k x hk; rwa [Addr.add_lit] at this⟩
    have := hcell 0 (by omega)
    exact World.block_lt_of_cell? W _ this
theorem open_slB {v : Value} {d : DataW H} {p : List MemPlace} (h : DataW.Trod enc Try.prog W 0 (fun _ => true) true 27 v d p) (hc : v.cells.toList = [v]) : ∃ A c xs, v = .slice A xs.length c ∧ SlB W W.heap.size A c xs := by
  obtain ⟨n, hn⟩ := h
  rw [hc] at hn
  rcases Deep.open_bools Try.underlying27 Try.underlying4 (by kernel_rfl) hn with ⟨hcs, _⟩ | ⟨a, len, cap, B, hcs, _, hl, hm, _, hcell⟩
  · simp at hcs
    subst hcs
    exact ⟨none, 0, [], rfl, SlOf.nil _ _⟩
  · simp at hcs
    subst hcs
    have e : ((List.range len).map B).length = len := by simp
    refine ⟨some a, cap, (List.range len).map B, by rw [e], by rw [e]; exact hl, hm, fun hn => ?_⟩
    rw [e] at hn
    obtain ⟨b, o, m⟩ := a
    have hm0 : m = none := by
      have h0 := hcell 0 (by omega)
      cases m with
      | none => rfl
      | some s =>
        simp [Addr.add, World.cell?] at h0
        split at h0 <;> cases h0
    subst hm0
    refine ⟨b, o, rfl, .inl ?_, fun k x hk => ?_⟩
    · have := hcell 0 (by omega)
      exact World.block_lt_of_cell? W _ this
    · have hk1 : k < len := by have := (List.getElem?_eq_some_iff.1 hk).1; simpa using this
      have := hcell k (by omega)
      rw [Addr.add_lit] at this
      rw [this]
      simp [hk1] at hk
      rw [hk]
end
end Go.Proofs.Ytgmcajojigedaaa
