/-
  No cell of these rows narrows 'for every input' (looked for: loops, veiled, ifaces, maps, wideKeys, modest, calm, conditions, laid).
  DERIVED. THE GIVEN ROWS OF THIS SEAT. 19 by the template 'for every input the law returns true; each argument reads behind the call as it read before'; 0 by the template 'total and deterministic' (their statements: YtgmcajojigedaaaTotals.lean).
  GIVEN WITH THE SEED: the statements are not yours to turn. If you find one false, say at which input.
  Laid BY PROGRAM, IN A SANDBOX (cutbox-rows.mjs): the forced cells as the released guide's own fill.sh prints them over the translation 4281c6f3b1e4a37b… (all of the seat's roots in one cut). By AI agents, Wed Nov 11 2026. No macro, syntax, notation, axiom, sorry.
-/
import Derived.Test.YtgmcajojigedaaaChecked
import GoSem.Claim
import GoSem.ClaimJoined
import GoSem.ClaimMapViews
import Derived.JoinedTies
import Derived.KernelRfl
namespace Go.Proofs.Ytgmcajojigedaaa
/- THE CELL 'sum', in the pinned program and in every row, IS THE sha256 OF THE DUMP (.gsa) THAT YtgmcajojigedaaaProg.lean LOADS. Nothing in Lean hashes anything: it is a label: what it is worth is what the hold of that sum in a sandbox is worth. -/
noncomputable def Try.pinned : Pinned := { name := "ytgmcajojigedaaa", sum := "4281c6f3b1e4a37bfa2d449c8072a4314f8fe3a6a7eb6a3d85130fc249b6736d", checked := Try.checked }
namespace Rows
def none {H : Type} : Left H := { results := [], args := [] }

/-- 'assessorlaw25.BlastReads': WHATEVER THE INPUT: true; the input reads as it did. -/
def blastReadsSpec : ChangeSpec := { name := "blastReads", fn := fun _ => fun
  | [d1, d2] => { results := [.lit (.bool true)], args := [d1, d2] }
  | _ => none }
def blastReadsRow : OpenClaim := { program := "ytgmcajojigedaaa", sum := "4281c6f3b1e4a37bfa2d449c8072a4314f8fe3a6a7eb6a3d85130fc249b6736d", func := "assessor/assessorlaw25.BlastReads", spec := "blastReads", unfollowed := true, recurses := true, plainKeys := false, apart := false }
def BlastReadsSaid : Prop := blastReadsRow.holds Try.pinned (OpenSpec.ofChange blastReadsSpec)

/-- ITS FALSE NEIGHBOUR: 'it returns false'. Refute it at one input. -/
def blastReadsWrong : ChangeSpec := { name := "blastReads", fn := fun _ => fun
  | [d1, d2] => { results := [.lit (.bool false)], args := [d1, d2] }
  | _ => none }
def BlastReadsWrongFalsely : Prop := blastReadsRow.holds Try.pinned (OpenSpec.ofChange blastReadsWrong)

/-- 'assessorlaw25.BlastNumbers': WHATEVER THE INPUT: true; the input reads as it did. -/
def blastNumbersSpec : ChangeSpec := { name := "blastNumbers", fn := fun _ => fun
  | [d1, d2, d3, d4, d5, d6] => { results := [.lit (.bool true)], args := [d1, d2, d3, d4, d5, d6] }
  | _ => none }
def blastNumbersRow : OpenClaim := { program := "ytgmcajojigedaaa", sum := "4281c6f3b1e4a37bfa2d449c8072a4314f8fe3a6a7eb6a3d85130fc249b6736d", func := "assessor/assessorlaw25.BlastNumbers", spec := "blastNumbers", unfollowed := true, recurses := true, plainKeys := false, apart := false }
def BlastNumbersSaid : Prop := blastNumbersRow.holds Try.pinned (OpenSpec.ofChange blastNumbersSpec)

/-- ITS FALSE NEIGHBOUR: 'it returns false'. Refute it at one input. -/
def blastNumbersWrong : ChangeSpec := { name := "blastNumbers", fn := fun _ => fun
  | [d1, d2, d3, d4, d5, d6] => { results := [.lit (.bool false)], args := [d1, d2, d3, d4, d5, d6] }
  | _ => none }
def BlastNumbersWrongFalsely : Prop := blastNumbersRow.holds Try.pinned (OpenSpec.ofChange blastNumbersWrong)

/-- 'assessorlaw25.BlastWords': WHATEVER THE INPUT: true; the input reads as it did. -/
def blastWordsSpec : ChangeSpec := { name := "blastWords", fn := fun _ => fun
  | [d1, d2] => { results := [.lit (.bool true)], args := [d1, d2] }
  | _ => none }
def blastWordsRow : OpenClaim := { program := "ytgmcajojigedaaa", sum := "4281c6f3b1e4a37bfa2d449c8072a4314f8fe3a6a7eb6a3d85130fc249b6736d", func := "assessor/assessorlaw25.BlastWords", spec := "blastWords", unfollowed := true, recurses := true, plainKeys := false, apart := false }
def BlastWordsSaid : Prop := blastWordsRow.holds Try.pinned (OpenSpec.ofChange blastWordsSpec)

/-- ITS FALSE NEIGHBOUR: 'it returns false'. Refute it at one input. -/
def blastWordsWrong : ChangeSpec := { name := "blastWords", fn := fun _ => fun
  | [d1, d2] => { results := [.lit (.bool false)], args := [d1, d2] }
  | _ => none }
def BlastWordsWrongFalsely : Prop := blastWordsRow.holds Try.pinned (OpenSpec.ofChange blastWordsWrong)

/-- 'assessorlaw25.BlastOperators': WHATEVER THE INPUT: true; the input reads as it did. -/
def blastOperatorsSpec : ChangeSpec := { name := "blastOperators", fn := fun _ => fun
  | [d1, d2, d3, d4] => { results := [.lit (.bool true)], args := [d1, d2, d3, d4] }
  | _ => none }
def blastOperatorsRow : OpenClaim := { program := "ytgmcajojigedaaa", sum := "4281c6f3b1e4a37bfa2d449c8072a4314f8fe3a6a7eb6a3d85130fc249b6736d", func := "assessor/assessorlaw25.BlastOperators", spec := "blastOperators", unfollowed := true, recurses := true, plainKeys := false, apart := false }
def BlastOperatorsSaid : Prop := blastOperatorsRow.holds Try.pinned (OpenSpec.ofChange blastOperatorsSpec)

/-- ITS FALSE NEIGHBOUR: 'it returns false'. Refute it at one input. -/
def blastOperatorsWrong : ChangeSpec := { name := "blastOperators", fn := fun _ => fun
  | [d1, d2, d3, d4] => { results := [.lit (.bool false)], args := [d1, d2, d3, d4] }
  | _ => none }
def BlastOperatorsWrongFalsely : Prop := blastOperatorsRow.holds Try.pinned (OpenSpec.ofChange blastOperatorsWrong)

/-- 'assessorlaw23.SimplifyReturns': WHATEVER THE INPUT: true; the input reads as it did. -/
def simplifyReturnsSpec : ChangeSpec := { name := "simplifyReturns", fn := fun _ => fun
  | [d1, d2, d3] => { results := [.lit (.bool true)], args := [d1, d2, d3] }
  | _ => none }
def simplifyReturnsRow : OpenClaim := { program := "ytgmcajojigedaaa", sum := "4281c6f3b1e4a37bfa2d449c8072a4314f8fe3a6a7eb6a3d85130fc249b6736d", func := "assessor/assessorlaw23.SimplifyReturns", spec := "simplifyReturns", unfollowed := true, recurses := true, plainKeys := false, apart := false }
def SimplifyReturnsSaid : Prop := simplifyReturnsRow.holds Try.pinned (OpenSpec.ofChange simplifyReturnsSpec)

/-- ITS FALSE NEIGHBOUR: 'it returns false'. Refute it at one input. -/
def simplifyReturnsWrong : ChangeSpec := { name := "simplifyReturns", fn := fun _ => fun
  | [d1, d2, d3] => { results := [.lit (.bool false)], args := [d1, d2, d3] }
  | _ => none }
def SimplifyReturnsWrongFalsely : Prop := simplifyReturnsRow.holds Try.pinned (OpenSpec.ofChange simplifyReturnsWrong)

/-- 'assessorlaw23.SimplifyKeeps': WHATEVER THE INPUT: true; the input reads as it did. -/
def simplifyKeepsSpec : ChangeSpec := { name := "simplifyKeeps", fn := fun _ => fun
  | [d1, d2, d3] => { results := [.lit (.bool true)], args := [d1, d2, d3] }
  | _ => none }
def simplifyKeepsRow : OpenClaim := { program := "ytgmcajojigedaaa", sum := "4281c6f3b1e4a37bfa2d449c8072a4314f8fe3a6a7eb6a3d85130fc249b6736d", func := "assessor/assessorlaw23.SimplifyKeeps", spec := "simplifyKeeps", unfollowed := true, recurses := true, plainKeys := false, apart := false }
def SimplifyKeepsSaid : Prop := simplifyKeepsRow.holds Try.pinned (OpenSpec.ofChange simplifyKeepsSpec)

/-- ITS FALSE NEIGHBOUR: 'it returns false'. Refute it at one input. -/
def simplifyKeepsWrong : ChangeSpec := { name := "simplifyKeeps", fn := fun _ => fun
  | [d1, d2, d3] => { results := [.lit (.bool false)], args := [d1, d2, d3] }
  | _ => none }
def SimplifyKeepsWrongFalsely : Prop := simplifyKeepsRow.holds Try.pinned (OpenSpec.ofChange simplifyKeepsWrong)

/-- 'assessorlaw23.SimplifySmaller': WHATEVER THE INPUT: true; the input reads as it did. -/
def simplifySmallerSpec : ChangeSpec := { name := "simplifySmaller", fn := fun _ => fun
  | [d1, d2] => { results := [.lit (.bool true)], args := [d1, d2] }
  | _ => none }
def simplifySmallerRow : OpenClaim := { program := "ytgmcajojigedaaa", sum := "4281c6f3b1e4a37bfa2d449c8072a4314f8fe3a6a7eb6a3d85130fc249b6736d", func := "assessor/assessorlaw23.SimplifySmaller", spec := "simplifySmaller", unfollowed := true, recurses := true, plainKeys := false, apart := false }
def SimplifySmallerSaid : Prop := simplifySmallerRow.holds Try.pinned (OpenSpec.ofChange simplifySmallerSpec)

/-- ITS FALSE NEIGHBOUR: 'it returns false'. Refute it at one input. -/
def simplifySmallerWrong : ChangeSpec := { name := "simplifySmaller", fn := fun _ => fun
  | [d1, d2] => { results := [.lit (.bool false)], args := [d1, d2] }
  | _ => none }
def SimplifySmallerWrongFalsely : Prop := simplifySmallerRow.holds Try.pinned (OpenSpec.ofChange simplifySmallerWrong)

/-- 'assessorlaw23.SimplifyTwice': WHATEVER THE INPUT: true; the input reads as it did. -/
def simplifyTwiceSpec : ChangeSpec := { name := "simplifyTwice", fn := fun _ => fun
  | [d1, d2] => { results := [.lit (.bool true)], args := [d1, d2] }
  | _ => none }
def simplifyTwiceRow : OpenClaim := { program := "ytgmcajojigedaaa", sum := "4281c6f3b1e4a37bfa2d449c8072a4314f8fe3a6a7eb6a3d85130fc249b6736d", func := "assessor/assessorlaw23.SimplifyTwice", spec := "simplifyTwice", unfollowed := true, recurses := true, plainKeys := false, apart := false }
def SimplifyTwiceSaid : Prop := simplifyTwiceRow.holds Try.pinned (OpenSpec.ofChange simplifyTwiceSpec)

/-- ITS FALSE NEIGHBOUR: 'it returns false'. Refute it at one input. -/
def simplifyTwiceWrong : ChangeSpec := { name := "simplifyTwice", fn := fun _ => fun
  | [d1, d2] => { results := [.lit (.bool false)], args := [d1, d2] }
  | _ => none }
def SimplifyTwiceWrongFalsely : Prop := simplifyTwiceRow.holds Try.pinned (OpenSpec.ofChange simplifyTwiceWrong)

/-- 'assessorlaw23.SimplifyApplies': WHATEVER THE INPUT: true; the input reads as it did. -/
def simplifyAppliesSpec : ChangeSpec := { name := "simplifyApplies", fn := fun _ => fun
  | [d1, d2, d3, d4] => { results := [.lit (.bool true)], args := [d1, d2, d3, d4] }
  | _ => none }
def simplifyAppliesRow : OpenClaim := { program := "ytgmcajojigedaaa", sum := "4281c6f3b1e4a37bfa2d449c8072a4314f8fe3a6a7eb6a3d85130fc249b6736d", func := "assessor/assessorlaw23.SimplifyApplies", spec := "simplifyApplies", unfollowed := true, recurses := true, plainKeys := false, apart := false }
def SimplifyAppliesSaid : Prop := simplifyAppliesRow.holds Try.pinned (OpenSpec.ofChange simplifyAppliesSpec)

/-- ITS FALSE NEIGHBOUR: 'it returns false'. Refute it at one input. -/
def simplifyAppliesWrong : ChangeSpec := { name := "simplifyApplies", fn := fun _ => fun
  | [d1, d2, d3, d4] => { results := [.lit (.bool false)], args := [d1, d2, d3, d4] }
  | _ => none }
def SimplifyAppliesWrongFalsely : Prop := simplifyAppliesRow.holds Try.pinned (OpenSpec.ofChange simplifyAppliesWrong)

/-- 'assessorlaw25.BlastSupport': WHATEVER THE INPUT: true; the input reads as it did. -/
def blastSupportSpec : ChangeSpec := { name := "blastSupport", fn := fun _ => fun
  | [d1, d2, d3] => { results := [.lit (.bool true)], args := [d1, d2, d3] }
  | _ => none }
def blastSupportRow : OpenClaim := { program := "ytgmcajojigedaaa", sum := "4281c6f3b1e4a37bfa2d449c8072a4314f8fe3a6a7eb6a3d85130fc249b6736d", func := "assessor/assessorlaw25.BlastSupport", spec := "blastSupport", unfollowed := true, recurses := true, plainKeys := false, apart := false }
def BlastSupportSaid : Prop := blastSupportRow.holds Try.pinned (OpenSpec.ofChange blastSupportSpec)

/-- ITS FALSE NEIGHBOUR: 'it returns false'. Refute it at one input. -/
def blastSupportWrong : ChangeSpec := { name := "blastSupport", fn := fun _ => fun
  | [d1, d2, d3] => { results := [.lit (.bool false)], args := [d1, d2, d3] }
  | _ => none }
def BlastSupportWrongFalsely : Prop := blastSupportRow.holds Try.pinned (OpenSpec.ofChange blastSupportWrong)

/-- 'assessorlaw25.BlastEvals': WHATEVER THE INPUT: true; the input reads as it did. -/
def blastEvalsSpec : ChangeSpec := { name := "blastEvals", fn := fun _ => fun
  | [d1, d2, d3, d4, d5] => { results := [.lit (.bool true)], args := [d1, d2, d3, d4, d5] }
  | _ => none }
def blastEvalsRow : OpenClaim := { program := "ytgmcajojigedaaa", sum := "4281c6f3b1e4a37bfa2d449c8072a4314f8fe3a6a7eb6a3d85130fc249b6736d", func := "assessor/assessorlaw25.BlastEvals", spec := "blastEvals", unfollowed := true, recurses := true, plainKeys := false, apart := false }
def BlastEvalsSaid : Prop := blastEvalsRow.holds Try.pinned (OpenSpec.ofChange blastEvalsSpec)

/-- ITS FALSE NEIGHBOUR: 'it returns false'. Refute it at one input. -/
def blastEvalsWrong : ChangeSpec := { name := "blastEvals", fn := fun _ => fun
  | [d1, d2, d3, d4, d5] => { results := [.lit (.bool false)], args := [d1, d2, d3, d4, d5] }
  | _ => none }
def BlastEvalsWrongFalsely : Prop := blastEvalsRow.holds Try.pinned (OpenSpec.ofChange blastEvalsWrong)

/-- 'assessorlaw22.BitvecEvals': WHATEVER THE INPUT: true; the input reads as it did. -/
def bitvecEvalsSpec : ChangeSpec := { name := "bitvecEvals", fn := fun _ => fun
  | [d1, d2, d3, d4] => { results := [.lit (.bool true)], args := [d1, d2, d3, d4] }
  | _ => none }
def bitvecEvalsRow : OpenClaim := { program := "ytgmcajojigedaaa", sum := "4281c6f3b1e4a37bfa2d449c8072a4314f8fe3a6a7eb6a3d85130fc249b6736d", func := "assessor/assessorlaw22.BitvecEvals", spec := "bitvecEvals", recurses := true, plainKeys := false, apart := false }
def BitvecEvalsSaid : Prop := bitvecEvalsRow.holds Try.pinned (OpenSpec.ofChange bitvecEvalsSpec)

/-- ITS FALSE NEIGHBOUR: 'it returns false'. Refute it at one input. -/
def bitvecEvalsWrong : ChangeSpec := { name := "bitvecEvals", fn := fun _ => fun
  | [d1, d2, d3, d4] => { results := [.lit (.bool false)], args := [d1, d2, d3, d4] }
  | _ => none }
def BitvecEvalsWrongFalsely : Prop := bitvecEvalsRow.holds Try.pinned (OpenSpec.ofChange bitvecEvalsWrong)

/-- 'assessorlaw22.BitvecWraps': WHATEVER THE INPUT: true; the input reads as it did. -/
def bitvecWrapsSpec : ChangeSpec := { name := "bitvecWraps", fn := fun _ => fun
  | [d1, d2, d3] => { results := [.lit (.bool true)], args := [d1, d2, d3] }
  | _ => none }
def bitvecWrapsRow : OpenClaim := { program := "ytgmcajojigedaaa", sum := "4281c6f3b1e4a37bfa2d449c8072a4314f8fe3a6a7eb6a3d85130fc249b6736d", func := "assessor/assessorlaw22.BitvecWraps", spec := "bitvecWraps", unfollowed := true, recurses := true, plainKeys := false, apart := false }
def BitvecWrapsSaid : Prop := bitvecWrapsRow.holds Try.pinned (OpenSpec.ofChange bitvecWrapsSpec)

/-- ITS FALSE NEIGHBOUR: 'it returns false'. Refute it at one input. -/
def bitvecWrapsWrong : ChangeSpec := { name := "bitvecWraps", fn := fun _ => fun
  | [d1, d2, d3] => { results := [.lit (.bool false)], args := [d1, d2, d3] }
  | _ => none }
def BitvecWrapsWrongFalsely : Prop := bitvecWrapsRow.holds Try.pinned (OpenSpec.ofChange bitvecWrapsWrong)

/-- 'assessorlaw22.BitvecDivides': WHATEVER THE INPUT: true; the input reads as it did. -/
def bitvecDividesSpec : ChangeSpec := { name := "bitvecDivides", fn := fun _ => fun
  | [d1, d2, d3] => { results := [.lit (.bool true)], args := [d1, d2, d3] }
  | _ => none }
def bitvecDividesRow : OpenClaim := { program := "ytgmcajojigedaaa", sum := "4281c6f3b1e4a37bfa2d449c8072a4314f8fe3a6a7eb6a3d85130fc249b6736d", func := "assessor/assessorlaw22.BitvecDivides", spec := "bitvecDivides", recurses := true, plainKeys := false, apart := false }
def BitvecDividesSaid : Prop := bitvecDividesRow.holds Try.pinned (OpenSpec.ofChange bitvecDividesSpec)

/-- ITS FALSE NEIGHBOUR: 'it returns false'. Refute it at one input. -/
def bitvecDividesWrong : ChangeSpec := { name := "bitvecDivides", fn := fun _ => fun
  | [d1, d2, d3] => { results := [.lit (.bool false)], args := [d1, d2, d3] }
  | _ => none }
def BitvecDividesWrongFalsely : Prop := bitvecDividesRow.holds Try.pinned (OpenSpec.ofChange bitvecDividesWrong)

/-- 'assessorlaw22.BitvecAlgebra': WHATEVER THE INPUT: true; the input reads as it did. -/
def bitvecAlgebraSpec : ChangeSpec := { name := "bitvecAlgebra", fn := fun _ => fun
  | [d1, d2, d3, d4] => { results := [.lit (.bool true)], args := [d1, d2, d3, d4] }
  | _ => none }
def bitvecAlgebraRow : OpenClaim := { program := "ytgmcajojigedaaa", sum := "4281c6f3b1e4a37bfa2d449c8072a4314f8fe3a6a7eb6a3d85130fc249b6736d", func := "assessor/assessorlaw22.BitvecAlgebra", spec := "bitvecAlgebra", unfollowed := true, recurses := true, plainKeys := false, apart := false }
def BitvecAlgebraSaid : Prop := bitvecAlgebraRow.holds Try.pinned (OpenSpec.ofChange bitvecAlgebraSpec)

/-- ITS FALSE NEIGHBOUR: 'it returns false'. Refute it at one input. -/
def bitvecAlgebraWrong : ChangeSpec := { name := "bitvecAlgebra", fn := fun _ => fun
  | [d1, d2, d3, d4] => { results := [.lit (.bool false)], args := [d1, d2, d3, d4] }
  | _ => none }
def BitvecAlgebraWrongFalsely : Prop := bitvecAlgebraRow.holds Try.pinned (OpenSpec.ofChange bitvecAlgebraWrong)

/-- 'assessorlaw22.BitvecMakes': WHATEVER THE INPUT: true; the input reads as it did. -/
def bitvecMakesSpec : ChangeSpec := { name := "bitvecMakes", fn := fun _ => fun
  | [d1, d2, d3] => { results := [.lit (.bool true)], args := [d1, d2, d3] }
  | _ => none }
def bitvecMakesRow : OpenClaim := { program := "ytgmcajojigedaaa", sum := "4281c6f3b1e4a37bfa2d449c8072a4314f8fe3a6a7eb6a3d85130fc249b6736d", func := "assessor/assessorlaw22.BitvecMakes", spec := "bitvecMakes", recurses := true, plainKeys := false, apart := false }
def BitvecMakesSaid : Prop := bitvecMakesRow.holds Try.pinned (OpenSpec.ofChange bitvecMakesSpec)

/-- ITS FALSE NEIGHBOUR: 'it returns false'. Refute it at one input. -/
def bitvecMakesWrong : ChangeSpec := { name := "bitvecMakes", fn := fun _ => fun
  | [d1, d2, d3] => { results := [.lit (.bool false)], args := [d1, d2, d3] }
  | _ => none }
def BitvecMakesWrongFalsely : Prop := bitvecMakesRow.holds Try.pinned (OpenSpec.ofChange bitvecMakesWrong)

/-- 'assessorlaw22.BitvecSupport': WHATEVER THE INPUT: true; the input reads as it did. -/
def bitvecSupportSpec : ChangeSpec := { name := "bitvecSupport", fn := fun _ => fun
  | [d1, d2, d3, d4] => { results := [.lit (.bool true)], args := [d1, d2, d3, d4] }
  | _ => none }
def bitvecSupportRow : OpenClaim := { program := "ytgmcajojigedaaa", sum := "4281c6f3b1e4a37bfa2d449c8072a4314f8fe3a6a7eb6a3d85130fc249b6736d", func := "assessor/assessorlaw22.BitvecSupport", spec := "bitvecSupport", recurses := true, plainKeys := false, apart := false }
def BitvecSupportSaid : Prop := bitvecSupportRow.holds Try.pinned (OpenSpec.ofChange bitvecSupportSpec)

/-- ITS FALSE NEIGHBOUR: 'it returns false'. Refute it at one input. -/
def bitvecSupportWrong : ChangeSpec := { name := "bitvecSupport", fn := fun _ => fun
  | [d1, d2, d3, d4] => { results := [.lit (.bool false)], args := [d1, d2, d3, d4] }
  | _ => none }
def BitvecSupportWrongFalsely : Prop := bitvecSupportRow.holds Try.pinned (OpenSpec.ofChange bitvecSupportWrong)

/-- 'assessorlaw22.BitvecShares': WHATEVER THE INPUT: true; the input reads as it did. -/
def bitvecSharesSpec : ChangeSpec := { name := "bitvecShares", fn := fun _ => fun
  | [d1, d2] => { results := [.lit (.bool true)], args := [d1, d2] }
  | _ => none }
def bitvecSharesRow : OpenClaim := { program := "ytgmcajojigedaaa", sum := "4281c6f3b1e4a37bfa2d449c8072a4314f8fe3a6a7eb6a3d85130fc249b6736d", func := "assessor/assessorlaw22.BitvecShares", spec := "bitvecShares", recurses := true, plainKeys := false, apart := false }
def BitvecSharesSaid : Prop := bitvecSharesRow.holds Try.pinned (OpenSpec.ofChange bitvecSharesSpec)

/-- ITS FALSE NEIGHBOUR: 'it returns false'. Refute it at one input. -/
def bitvecSharesWrong : ChangeSpec := { name := "bitvecShares", fn := fun _ => fun
  | [d1, d2] => { results := [.lit (.bool false)], args := [d1, d2] }
  | _ => none }
def BitvecSharesWrongFalsely : Prop := bitvecSharesRow.holds Try.pinned (OpenSpec.ofChange bitvecSharesWrong)

/-- 'assessorlaw23.SimplifyClosed': WHATEVER THE INPUT: true; the input reads as it did. -/
def simplifyClosedSpec : ChangeSpec := { name := "simplifyClosed", fn := fun _ => fun
  | [d1, d2] => { results := [.lit (.bool true)], args := [d1, d2] }
  | _ => none }
def simplifyClosedRow : OpenClaim := { program := "ytgmcajojigedaaa", sum := "4281c6f3b1e4a37bfa2d449c8072a4314f8fe3a6a7eb6a3d85130fc249b6736d", func := "assessor/assessorlaw23.SimplifyClosed", spec := "simplifyClosed", unfollowed := true, recurses := true, plainKeys := false, apart := false }
def SimplifyClosedSaid : Prop := simplifyClosedRow.holds Try.pinned (OpenSpec.ofChange simplifyClosedSpec)

/-- ITS FALSE NEIGHBOUR: 'it returns false'. Refute it at one input. -/
def simplifyClosedWrong : ChangeSpec := { name := "simplifyClosed", fn := fun _ => fun
  | [d1, d2] => { results := [.lit (.bool false)], args := [d1, d2] }
  | _ => none }
def SimplifyClosedWrongFalsely : Prop := simplifyClosedRow.holds Try.pinned (OpenSpec.ofChange simplifyClosedWrong)

/- THE SECOND FORM. 'bulk': how many values and letters a reading holds, each counted each time it is reached (what is shared counts as often as it is met; a slice's spare places count too). A statement '..UptoSaid' is the law's where the arguments, and the package variables that the reading takes, are together of bulk at most 1048576: NARROWER than '..Said'. Prove '..Said' where nothing that the law and all that it calls make is longer than what came in: it says more and counts as full. Else prove '..UptoSaid'. A law counts once. -/
mutual
def uptoBulk {H : Type} : DataW H → Nat
  | .lit (.string bytes) => bytes.length + 1
  | .lit _ => 1
  | .nil => 1
  | .ptr d => uptoBulk d + 1
  | .slice elems spare => uptoBulkAll elems + uptoBulkAll spare + 1
  | .agg parts => uptoBulkAll parts + 1
  | .iface _ d => uptoBulk d + 1
  | .map entries => uptoBulkEntries entries + 1
  | .held _ => 1
def uptoBulkAll {H : Type} : List (DataW H) → Nat
  | [] => 0
  | d :: r => uptoBulk d + uptoBulkAll r
def uptoBulkEntries {H : Type} : List (Lit × DataW H) → Nat
  | [] => 0
  | x :: r => uptoBulkEntry x + uptoBulkEntries r
def uptoBulkEntry {H : Type} : Lit × DataW H → Nat
  | (.string bytes, d) => bytes.length + uptoBulk d + 1
  | (_, d) => uptoBulk d + 1
 end
def uptoSmall : (H : Type) → List (DataW H) → Bool := fun _ ds => decide (uptoBulkAll ds ≤ 1048576)
def OpenSpec.upto (s : _root_.Go.ChangeSpec) : _root_.Go.OpenSpec := { _root_.Go.OpenSpec.ofChange s with cond := some uptoSmall }

/-- 'assessorlaw25.BlastReads', WHERE WHAT IT READS IS OF BULK AT MOST 1048576: true; the input reads as it did. -/
def blastReadsUptoRow : OpenClaim := { program := "ytgmcajojigedaaa", sum := "4281c6f3b1e4a37bfa2d449c8072a4314f8fe3a6a7eb6a3d85130fc249b6736d", func := "assessor/assessorlaw25.BlastReads", spec := "blastReads", unfollowed := true, recurses := true, plainKeys := false, apart := false, narrowed := true }
def BlastReadsUptoSaid : Prop := blastReadsUptoRow.holds Try.pinned (OpenSpec.upto blastReadsSpec)

/-- 'assessorlaw25.BlastNumbers', WHERE WHAT IT READS IS OF BULK AT MOST 1048576: true; the input reads as it did. -/
def blastNumbersUptoRow : OpenClaim := { program := "ytgmcajojigedaaa", sum := "4281c6f3b1e4a37bfa2d449c8072a4314f8fe3a6a7eb6a3d85130fc249b6736d", func := "assessor/assessorlaw25.BlastNumbers", spec := "blastNumbers", unfollowed := true, recurses := true, plainKeys := false, apart := false, narrowed := true }
def BlastNumbersUptoSaid : Prop := blastNumbersUptoRow.holds Try.pinned (OpenSpec.upto blastNumbersSpec)

/-- 'assessorlaw25.BlastWords', WHERE WHAT IT READS IS OF BULK AT MOST 1048576: true; the input reads as it did. -/
def blastWordsUptoRow : OpenClaim := { program := "ytgmcajojigedaaa", sum := "4281c6f3b1e4a37bfa2d449c8072a4314f8fe3a6a7eb6a3d85130fc249b6736d", func := "assessor/assessorlaw25.BlastWords", spec := "blastWords", unfollowed := true, recurses := true, plainKeys := false, apart := false, narrowed := true }
def BlastWordsUptoSaid : Prop := blastWordsUptoRow.holds Try.pinned (OpenSpec.upto blastWordsSpec)

/-- 'assessorlaw25.BlastOperators', WHERE WHAT IT READS IS OF BULK AT MOST 1048576: true; the input reads as it did. -/
def blastOperatorsUptoRow : OpenClaim := { program := "ytgmcajojigedaaa", sum := "4281c6f3b1e4a37bfa2d449c8072a4314f8fe3a6a7eb6a3d85130fc249b6736d", func := "assessor/assessorlaw25.BlastOperators", spec := "blastOperators", unfollowed := true, recurses := true, plainKeys := false, apart := false, narrowed := true }
def BlastOperatorsUptoSaid : Prop := blastOperatorsUptoRow.holds Try.pinned (OpenSpec.upto blastOperatorsSpec)

/-- 'assessorlaw23.SimplifyReturns', WHERE WHAT IT READS IS OF BULK AT MOST 1048576: true; the input reads as it did. -/
def simplifyReturnsUptoRow : OpenClaim := { program := "ytgmcajojigedaaa", sum := "4281c6f3b1e4a37bfa2d449c8072a4314f8fe3a6a7eb6a3d85130fc249b6736d", func := "assessor/assessorlaw23.SimplifyReturns", spec := "simplifyReturns", unfollowed := true, recurses := true, plainKeys := false, apart := false, narrowed := true }
def SimplifyReturnsUptoSaid : Prop := simplifyReturnsUptoRow.holds Try.pinned (OpenSpec.upto simplifyReturnsSpec)

/-- 'assessorlaw23.SimplifyKeeps', WHERE WHAT IT READS IS OF BULK AT MOST 1048576: true; the input reads as it did. -/
def simplifyKeepsUptoRow : OpenClaim := { program := "ytgmcajojigedaaa", sum := "4281c6f3b1e4a37bfa2d449c8072a4314f8fe3a6a7eb6a3d85130fc249b6736d", func := "assessor/assessorlaw23.SimplifyKeeps", spec := "simplifyKeeps", unfollowed := true, recurses := true, plainKeys := false, apart := false, narrowed := true }
def SimplifyKeepsUptoSaid : Prop := simplifyKeepsUptoRow.holds Try.pinned (OpenSpec.upto simplifyKeepsSpec)

/-- 'assessorlaw23.SimplifySmaller', WHERE WHAT IT READS IS OF BULK AT MOST 1048576: true; the input reads as it did. -/
def simplifySmallerUptoRow : OpenClaim := { program := "ytgmcajojigedaaa", sum := "4281c6f3b1e4a37bfa2d449c8072a4314f8fe3a6a7eb6a3d85130fc249b6736d", func := "assessor/assessorlaw23.SimplifySmaller", spec := "simplifySmaller", unfollowed := true, recurses := true, plainKeys := false, apart := false, narrowed := true }
def SimplifySmallerUptoSaid : Prop := simplifySmallerUptoRow.holds Try.pinned (OpenSpec.upto simplifySmallerSpec)

/-- 'assessorlaw23.SimplifyTwice', WHERE WHAT IT READS IS OF BULK AT MOST 1048576: true; the input reads as it did. -/
def simplifyTwiceUptoRow : OpenClaim := { program := "ytgmcajojigedaaa", sum := "4281c6f3b1e4a37bfa2d449c8072a4314f8fe3a6a7eb6a3d85130fc249b6736d", func := "assessor/assessorlaw23.SimplifyTwice", spec := "simplifyTwice", unfollowed := true, recurses := true, plainKeys := false, apart := false, narrowed := true }
def SimplifyTwiceUptoSaid : Prop := simplifyTwiceUptoRow.holds Try.pinned (OpenSpec.upto simplifyTwiceSpec)

/-- 'assessorlaw23.SimplifyApplies', WHERE WHAT IT READS IS OF BULK AT MOST 1048576: true; the input reads as it did. -/
def simplifyAppliesUptoRow : OpenClaim := { program := "ytgmcajojigedaaa", sum := "4281c6f3b1e4a37bfa2d449c8072a4314f8fe3a6a7eb6a3d85130fc249b6736d", func := "assessor/assessorlaw23.SimplifyApplies", spec := "simplifyApplies", unfollowed := true, recurses := true, plainKeys := false, apart := false, narrowed := true }
def SimplifyAppliesUptoSaid : Prop := simplifyAppliesUptoRow.holds Try.pinned (OpenSpec.upto simplifyAppliesSpec)

/-- 'assessorlaw25.BlastSupport', WHERE WHAT IT READS IS OF BULK AT MOST 1048576: true; the input reads as it did. -/
def blastSupportUptoRow : OpenClaim := { program := "ytgmcajojigedaaa", sum := "4281c6f3b1e4a37bfa2d449c8072a4314f8fe3a6a7eb6a3d85130fc249b6736d", func := "assessor/assessorlaw25.BlastSupport", spec := "blastSupport", unfollowed := true, recurses := true, plainKeys := false, apart := false, narrowed := true }
def BlastSupportUptoSaid : Prop := blastSupportUptoRow.holds Try.pinned (OpenSpec.upto blastSupportSpec)

/-- 'assessorlaw25.BlastEvals', WHERE WHAT IT READS IS OF BULK AT MOST 1048576: true; the input reads as it did. -/
def blastEvalsUptoRow : OpenClaim := { program := "ytgmcajojigedaaa", sum := "4281c6f3b1e4a37bfa2d449c8072a4314f8fe3a6a7eb6a3d85130fc249b6736d", func := "assessor/assessorlaw25.BlastEvals", spec := "blastEvals", unfollowed := true, recurses := true, plainKeys := false, apart := false, narrowed := true }
def BlastEvalsUptoSaid : Prop := blastEvalsUptoRow.holds Try.pinned (OpenSpec.upto blastEvalsSpec)

/-- 'assessorlaw22.BitvecEvals', WHERE WHAT IT READS IS OF BULK AT MOST 1048576: true; the input reads as it did. -/
def bitvecEvalsUptoRow : OpenClaim := { program := "ytgmcajojigedaaa", sum := "4281c6f3b1e4a37bfa2d449c8072a4314f8fe3a6a7eb6a3d85130fc249b6736d", func := "assessor/assessorlaw22.BitvecEvals", spec := "bitvecEvals", recurses := true, plainKeys := false, apart := false, narrowed := true }
def BitvecEvalsUptoSaid : Prop := bitvecEvalsUptoRow.holds Try.pinned (OpenSpec.upto bitvecEvalsSpec)

/-- 'assessorlaw22.BitvecWraps', WHERE WHAT IT READS IS OF BULK AT MOST 1048576: true; the input reads as it did. -/
def bitvecWrapsUptoRow : OpenClaim := { program := "ytgmcajojigedaaa", sum := "4281c6f3b1e4a37bfa2d449c8072a4314f8fe3a6a7eb6a3d85130fc249b6736d", func := "assessor/assessorlaw22.BitvecWraps", spec := "bitvecWraps", unfollowed := true, recurses := true, plainKeys := false, apart := false, narrowed := true }
def BitvecWrapsUptoSaid : Prop := bitvecWrapsUptoRow.holds Try.pinned (OpenSpec.upto bitvecWrapsSpec)

/-- 'assessorlaw22.BitvecDivides', WHERE WHAT IT READS IS OF BULK AT MOST 1048576: true; the input reads as it did. -/
def bitvecDividesUptoRow : OpenClaim := { program := "ytgmcajojigedaaa", sum := "4281c6f3b1e4a37bfa2d449c8072a4314f8fe3a6a7eb6a3d85130fc249b6736d", func := "assessor/assessorlaw22.BitvecDivides", spec := "bitvecDivides", recurses := true, plainKeys := false, apart := false, narrowed := true }
def BitvecDividesUptoSaid : Prop := bitvecDividesUptoRow.holds Try.pinned (OpenSpec.upto bitvecDividesSpec)

/-- 'assessorlaw22.BitvecAlgebra', WHERE WHAT IT READS IS OF BULK AT MOST 1048576: true; the input reads as it did. -/
def bitvecAlgebraUptoRow : OpenClaim := { program := "ytgmcajojigedaaa", sum := "4281c6f3b1e4a37bfa2d449c8072a4314f8fe3a6a7eb6a3d85130fc249b6736d", func := "assessor/assessorlaw22.BitvecAlgebra", spec := "bitvecAlgebra", unfollowed := true, recurses := true, plainKeys := false, apart := false, narrowed := true }
def BitvecAlgebraUptoSaid : Prop := bitvecAlgebraUptoRow.holds Try.pinned (OpenSpec.upto bitvecAlgebraSpec)

/-- 'assessorlaw22.BitvecMakes', WHERE WHAT IT READS IS OF BULK AT MOST 1048576: true; the input reads as it did. -/
def bitvecMakesUptoRow : OpenClaim := { program := "ytgmcajojigedaaa", sum := "4281c6f3b1e4a37bfa2d449c8072a4314f8fe3a6a7eb6a3d85130fc249b6736d", func := "assessor/assessorlaw22.BitvecMakes", spec := "bitvecMakes", recurses := true, plainKeys := false, apart := false, narrowed := true }
def BitvecMakesUptoSaid : Prop := bitvecMakesUptoRow.holds Try.pinned (OpenSpec.upto bitvecMakesSpec)

/-- 'assessorlaw22.BitvecSupport', WHERE WHAT IT READS IS OF BULK AT MOST 1048576: true; the input reads as it did. -/
def bitvecSupportUptoRow : OpenClaim := { program := "ytgmcajojigedaaa", sum := "4281c6f3b1e4a37bfa2d449c8072a4314f8fe3a6a7eb6a3d85130fc249b6736d", func := "assessor/assessorlaw22.BitvecSupport", spec := "bitvecSupport", recurses := true, plainKeys := false, apart := false, narrowed := true }
def BitvecSupportUptoSaid : Prop := bitvecSupportUptoRow.holds Try.pinned (OpenSpec.upto bitvecSupportSpec)

/-- 'assessorlaw22.BitvecShares', WHERE WHAT IT READS IS OF BULK AT MOST 1048576: true; the input reads as it did. -/
def bitvecSharesUptoRow : OpenClaim := { program := "ytgmcajojigedaaa", sum := "4281c6f3b1e4a37bfa2d449c8072a4314f8fe3a6a7eb6a3d85130fc249b6736d", func := "assessor/assessorlaw22.BitvecShares", spec := "bitvecShares", recurses := true, plainKeys := false, apart := false, narrowed := true }
def BitvecSharesUptoSaid : Prop := bitvecSharesUptoRow.holds Try.pinned (OpenSpec.upto bitvecSharesSpec)

/-- 'assessorlaw23.SimplifyClosed', WHERE WHAT IT READS IS OF BULK AT MOST 1048576: true; the input reads as it did. -/
def simplifyClosedUptoRow : OpenClaim := { program := "ytgmcajojigedaaa", sum := "4281c6f3b1e4a37bfa2d449c8072a4314f8fe3a6a7eb6a3d85130fc249b6736d", func := "assessor/assessorlaw23.SimplifyClosed", spec := "simplifyClosed", unfollowed := true, recurses := true, plainKeys := false, apart := false, narrowed := true }
def SimplifyClosedUptoSaid : Prop := simplifyClosedUptoRow.holds Try.pinned (OpenSpec.upto simplifyClosedSpec)

end Rows
end Go.Proofs.Ytgmcajojigedaaa
