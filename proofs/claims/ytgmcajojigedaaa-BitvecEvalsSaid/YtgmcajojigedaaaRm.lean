/- The facts on the whole program that the row of BitvecEvals asks. -/
import Derived.Test.YtgmcajojigedaaaJa
set_option linter.unusedSimpArgs false
set_option linter.unusedVariables false
namespace Go.Proofs.Ytgmcajojigedaaa.bitvecEvals
theorem jIn : (Rows.bitvecEvalsRow.inPlace == Try.prog.inPlace 14) = true := by kernel_rfl
theorem jUn : Try.prog.unfollowed 14 = false := by kernel_rfl
theorem jRec : Try.prog.recurses 14 = true := by kernel_rfl
theorem jNamed : (Rows.bitvecEvalsRow.named == Try.prog.varsNamed 14) = true := by kernel_rfl
theorem jAll : joinedFacts Try.prog 14 Try.f14 Rows.bitvecEvalsSpec Rows.bitvecEvalsRow = true := by
  unfold joinedFacts
  rw [jLaid, jMaps, jIn, jUn, jRec, jNamed, jKeys, jHeard, jEnter]
  kernel_rfl

end Go.Proofs.Ytgmcajojigedaaa.bitvecEvals
