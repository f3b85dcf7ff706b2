/- A law's argument of type []Term, opened to a list of terms. -/
import Derived.Test.YtgmcajojigedaaaRw
import Derived.Test.YtgmcajojigedaaaTo
import Derived.Deep.Slices
import Derived.SizedLaws
import Derived.Laws.IdiomArrays
set_option linter.unusedSimpArgs false
set_option linter.unusedVariables false
namespace Go.Proofs.Ytgmcajojigedaaa
open Go.ChangeShapes Go.WideShapes Go.ChangeAt Go.RowKit

section
variable {H : Type} {enc : TypeId × Value → H} {W : World}
theorem five_of {cs : List Value} (h : cs.length = 5) : ∃ c0 c1 c2 c3 c4, cs = [c0, c1, c2, c3, c4] := by
  match cs, h with
  | [c0, c1, c2, c3, c4], _ => exact ⟨_, _, _, _, _, rfl⟩
theorem open_term {n : Nat} {cs : List Value} {x : DataW H × List MemPlace} (h : DataW.trod enc Try.prog W 0 (fun _ => true) true n 84 cs = some x) : ∃ t : Tm, cs = tcell t := by
  obtain ⟨ys, k, _, _, hl, hys, hf⟩ := DataW.trod_struct Try.underlying84 h
  have hys3 : ys.length = 3 := hys
  rw [cells84] at hl
  obtain ⟨c0, c1, c2, c3, c4, rfl⟩ := five_of hl
  have f0 := hf 0 { name := "Op", type := 3, offset := 0, embedded := false, tag := "", pkgPath := "", byteOffset := 0 } rfl
  dsimp only at f0
  have f1 := hf 1 { name := "Value", type := 3, offset := 1, embedded := false, tag := "", pkgPath := "", byteOffset := 8 } rfl
  dsimp only at f1
  have f2 := hf 2 { name := "Args", type := 82, offset := 2, embedded := false, tag := "", pkgPath := "", byteOffset := 16 } rfl
  dsimp only at f2
  simp only [cells3, cells82, List.drop_zero, List.take_succ_cons, List.take_zero, List.drop_succ_cons] at f0 f1 f2
  have some_of : ∀ {i : Nat}, i < 3 → ∃ y, ys[i]? = some y := fun hi => ⟨_, List.getElem?_eq_getElem (by omega)⟩
  obtain ⟨y0, h0⟩ := some_of (i := 0) (by omega)
  obtain ⟨y1, h1⟩ := some_of (i := 1) (by omega)
  obtain ⟨y2, h2⟩ := some_of (i := 2) (by omega)
  rw [h0] at f0
  rw [h1] at f1
  rw [h2] at f2
  obtain ⟨a0, e0, _⟩ := DataW.trod_int Try.underlying3 f0
  obtain ⟨a1, e1, _⟩ := DataW.trod_int Try.underlying3 f1
  obtain ⟨z0, z1, z2, m, _, g0, g1, g2⟩ := trod_array3 Try.underlying82 cells3 f2
  obtain ⟨b0, e2, _⟩ := DataW.trod_int Try.underlying3 g0
  obtain ⟨b1, e3, _⟩ := DataW.trod_int Try.underlying3 g1
  obtain ⟨b2, e4, _⟩ := DataW.trod_int Try.underlying3 g2
  simp only [List.cons.injEq, and_true] at e0 e1 e2 e3 e4
  subst e0 e1 e2 e3 e4
  exact ⟨⟨a0, a1, b0, b1, b2⟩, rfl⟩
theorem addr_add_block (a : Addr) (i : Nat) : (a.add i).block = a.block := by unfold Addr.add; split <;> rfl
theorem open_slT {v : Value} {d : DataW H} {p : List MemPlace} (h : DataW.Trod enc Try.prog W 0 (fun _ => true) true 62 v d p) (hc : v.cells.toList = [v]) : ∃ A c l, v = .slice A l.length c ∧ SlT W A c l := by
  obtain ⟨n, hn⟩ := h
  rw [hc] at hn
  rcases Go.Deep.open_slice Try.underlying62 hn with ⟨hcs, _⟩ | ⟨a, len, cap, m, n', D, Pl, hcs, _, hl, hm, hmm, _, hi⟩
  · simp at hcs
    subst hcs
    exact ⟨none, 0, [], rfl, Nat.le_refl _, by omega, fun h => absurd h (by simp)⟩
  · simp at hcs hmm
    subst hcs
    have each : ∀ i, i < len → ∃ t : Tm, ∀ j u, (tcell t)[j]? = some u → W.cell? (a.add (i * 5 + j)) = some u := fun i hlt => by
      obtain ⟨cs', h1, h2⟩ := hi i (by omega)
      obtain ⟨t, rfl⟩ := open_term h2
      rw [cells84] at h1
      obtain ⟨_, _, hat⟩ := World.cells?_some h1
      refine ⟨t, fun j u hu => ?_⟩
      have hj : j < 5 := by have := (List.getElem?_eq_some_iff.1 hu).1; simpa [tcell] using this
      rw [← Go.Deep.add_add, hat j hj]
      exact hu
    have : Inhabited Tm := ⟨⟨0, 0, 0, 0, 0⟩⟩
    obtain ⟨f, hf⟩ := Go.Deep.choose_lt each
    have e : ((List.range len).map f).length = len := by simp
    refine ⟨some a, cap, (List.range len).map f, by rw [e], by rw [e]; exact hl, hm, fun hpos => ?_⟩
    rw [e] at hpos
    obtain ⟨b, o, q⟩ := a
    have hq : q = none := by
      have h0 := hf 0 hpos 0 _ rfl
      cases q with
      | none => rfl
      | some s =>
        simp [Addr.add, World.cell?] at h0
        split at h0 <;> cases h0
    subst hq
    refine ⟨b, o, rfl, fun k t hk => ?_⟩
    have hk1 : k < len := by have := (List.getElem?_eq_some_iff.1 hk).1; simpa using this
    have ht : f k = t := by simpa [hk1] using hk
    have hc0 : ∀ j u, (tcell t)[j]? = some u → W.cell? ⟨b, o + (k * 5 + j), none⟩ = some u := fun j u hu => by
      have := hf k hk1 j u (by rw [ht]; exact hu)
      rwa [Addr.add_lit] at this
    exact ⟨hc0 0 _ rfl, by have := hc0 1 _ rfl; rwa [← Nat.add_assoc] at this, by have := hc0 2 _ rfl; rwa [← Nat.add_assoc] at this, by have := hc0 3 _ rfl; rwa [← Nat.add_assoc] at this, by have := hc0 4 _ rfl; rwa [← Nat.add_assoc] at this⟩
theorem bytes3 : Try.prog.bytesOf 3 = 8 := by kernel_rfl
theorem reach_slI {ts : List TypeId} {ds : List (DataW H)} {j : Nat} {v : Value} {d : DataW H} {p : List MemPlace} (hsz : (DataW.weightsEach Try.prog ts ds).all (· ≤ reachBytes) = true) (ht : ts[j]? = some 24) (hd : ds[j]? = some d)
    (h : DataW.Trod enc Try.prog W 0 (fun _ => true) true 24 v d p) (hc : v.cells.toList = [v]) (A : Option Addr) (n c : Nat) (hv : v = .slice A n c) : n * 8 ≤ 140737488351232 := by
  obtain ⟨k, hk⟩ := h
  rw [hc] at hk
  rcases open_ints Try.underlying24 Try.underlying3 (by kernel_rfl) hk with ⟨hcs, _⟩ | ⟨a, len, cap, zs, hcs, _, hl, hm, hz, hx, _, _⟩
  · simp at hcs
    subst hv
    cases hcs
    omega
  · simp at hcs hz
    subst hv
    cases hcs
    have e := congrArg Prod.fst hx
    dsimp only at e
    subst e
    have := sized_slice hsz ht hd Try.underlying24
    rw [bytes3] at this
    simp only [lits, List.length_map, List.length_take, List.length_drop, reachBytes] at this
    omega
end
end Go.Proofs.Ytgmcajojigedaaa
