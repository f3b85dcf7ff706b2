/- Facts on the whole program that every row of this seat asks, each a declaration of its own (the kernel's memory). -/
import Derived.Test.YtgmcajojigedaaaRows
import Derived.JoinedOf
set_option linter.unusedSimpArgs false
set_option linter.unusedVariables false
namespace Go.Proofs.Ytgmcajojigedaaa
theorem jLaid : laidOutB Try.prog = true := by kernel_rfl
theorem jMaps : mapsRowed Try.prog = true := by kernel_rfl
theorem jKeys : Try.prog.plainKeys = false := by kernel_rfl
theorem jHeard : Try.prog.stopsHeard = true := by kernel_rfl
theorem jEnter : Try.prog.mayEnter = true := by kernel_rfl
end Go.Proofs.Ytgmcajojigedaaa
