/- The law BlastWords of the given program returns true for every input, and its arguments read behind the call as before. No condition. -/
import Derived.Test.YtgmcajojigedaaaRows
import Derived.Test.YtgmcajojigedaaaHc
import Derived.Test.YtgmcajojigedaaaRw
import Derived.ShutString
namespace Go.Proofs.Ytgmcajojigedaaa.blastWords
open Go.ChangeShapes Go.WideShapes Go.ChangeAt Go.RowKit
theorem own : ownKnob Try.prog.godebug = none := by kernel_rfl
theorem params : ∀ t ∈ Try.f5.params.toList, Try.prog.readableRec t = true ∧ t < Try.prog.types.size := by
  intro t ht
  rw [Try.params5] at ht
  simp only [List.mem_cons, List.not_mem_nil, or_false] at ht
  rcases ht with rfl | rfl <;> exact ⟨by kernel_rfl, of_decide_eq_true (by kernel_rfl)⟩
set_option maxHeartbeats 1000000 in
set_option maxRecDepth 100000 in
theorem lifted (os : Os) (started : os.Started) (H : Type) (enc : TypeId × Value → H) :
    ReturnsInHanded {} Try.checked os 5 .any (Rows.blastWordsSpec.pre6 enc Try.prog Try.f5 Rows.blastWordsRow.domain false) (Rows.blastWordsSpec.post enc Try.prog Try.f5 false true false false) := by
  refine returnsInHanded_of_change (C := Try.checked) own started (by kernel_rfl) Try.func5
    (ChangeSpec.witness6 (enc := enc) (C := Try.checked) false ⟨#[], #[.slice none 0 0, .slice none 0 0], []⟩ 8 (by kernel_rfl) (by kernel_rfl) (by kernel_rfl) (by kernel_rfl)) ?_
  intro W base args ds gs before hval0 hW hcnd _
  have hval : ∀ (j : Nat) t v, Try.f5.params[j]? = some t → args[j]? = some v → Value.okWide Try.prog W .any base t v := hval0
  have hW' := hW
  obtain ⟨p, q, hA0, hV, rfl, hfz, hnd⟩ := hW
  have hA : DataW.TrodAll enc Try.prog W 0 (fun _ => true) true Try.f5.params.toList args.toList ds p := hA0
  have hlt : ∀ x ∈ p, x.block < W.heap.size := fun x hx => DataW.Whole.lt hW' x (List.mem_append_left _ hx)
  rw [Try.params5] at hA hval
  obtain ⟨v0, vs0, d0, ds0, p0, q0, hargs, rfl, hp0, h0, r0⟩ := trodAll_cons hA
  obtain ⟨v1, vs1, d1, ds1, p1, q1, rfl, rfl, hp1, h1, r1⟩ := trodAll_cons r0
  obtain ⟨rfl, rfl, hq⟩ := trodAll_nil r1
  obtain rfl : args = #[v0, v1] := by cases args; simp_all
  obtain ⟨rfl, rfl⟩ := trodVars_none hV
  obtain ⟨s0, l0, k0, rfl⟩ := okWide_slice Try.underlying24 (hval 0 24 v0 rfl rfl)
  obtain ⟨A0, c0, x0, hv0, H0⟩ := open_slI h0 rfl
  cases hv0
  obtain ⟨s1, l1, k1, rfl⟩ := okWide_slice Try.underlying24 (hval 1 24 v1 rfl rfl)
  obtain ⟨A1, c1, x1, hv1, H1⟩ := open_slI h1 rfl
  cases hv1
  clear hval0
  simp only [List.append_nil] at hW'
  refine (words_walk x0 x1 s0 s1 k0 k1 W H0 H1).mono fun e W' ⟨he, hg⟩ => ?_
  subst he
  exact ⟨_, rfl, post_of_below (pa := p) (pv := []) hW' (fun _ _ _ => (trodAll_cons_mk (shut_bool Try.underlying4 _) trodAll_mk0)) (fun sp hsp => trodAll_stays jLaid params hA0 (fun x hx => Below.same hg (hlt x hx)) hsp) (fun _ _ => rfl) (List.append_nil _).symm
    hg (ok_one (by kernel_rfl) rfl (okWide_bool_mk Try.underlying4 _))⟩

theorem jIn : (Rows.blastWordsRow.inPlace == Try.prog.inPlace 5) = true := by kernel_rfl
theorem jUn : Try.prog.unfollowed 5 = true := by kernel_rfl
theorem jRec : Try.prog.recurses 5 = true := by kernel_rfl
theorem jNamed : (Rows.blastWordsRow.named == Try.prog.varsNamed 5) = true := by kernel_rfl
theorem jAll : joinedFacts Try.prog 5 Try.f5 Rows.blastWordsSpec Rows.blastWordsRow = true := by
  unfold joinedFacts
  rw [jLaid, jMaps, jIn, jUn, jRec, jNamed, jKeys, jHeard, jEnter]
  kernel_rfl

theorem over : Rows.blastWordsRow.holds Try.pinned (OpenSpec.ofChange Rows.blastWordsSpec) :=
  OpenClaim.holds_of_wide 5 Try.f5 rfl rfl rfl rfl rfl rfl rfl ⟨rfl, rfl, rfl, rfl, rfl⟩ rfl rfl rfl rfl rfl (by kernel_rfl) Try.func5 jAll
    (of_decide_eq_true (by kernel_rfl)) (by unfold Func.isWrapper; first | (rw [if_pos (by decide +kernel)]; kernel_rfl) | (rw [if_neg (by decide +kernel)]; exact ⟨rfl, rfl⟩))
    (fun os started H enc _ => lifted os started H enc)
end Go.Proofs.Ytgmcajojigedaaa.blastWords
namespace Go.Proofs.Ytgmcajojigedaaa
theorem blastWords_holds : Rows.BlastWordsSaid := blastWords.over
#print axioms blastWords_holds
end Go.Proofs.Ytgmcajojigedaaa
