/- The law coachyardlaw32.LaneAll: its runs. -/
import Derived.Test.YtlmenjenkpnacaaLwXA
import Derived.Test.YtlmenjenkpnacaaLwXP
set_option linter.unusedVariables false
set_option linter.unusedSimpArgs false

section
namespace Go.Proofs.Ytlmenjenkpnacaa
open Go Go.Sy Go.RowKit

theorem runZ0 : restOf (runX Try.prog (oLz Try.prog) fLz (argsLz vwLz) (wayZ 0) hpLz) = some (rstZ 0) := by kernel_rfl
theorem runZ1 : restOf (runX Try.prog (oLz Try.prog) fLz (argsLz vwLz) (wayZ 1) hpLz) = some (rstZ 1) := by kernel_rfl
theorem runZ2 : restOf (runX Try.prog (oLz Try.prog) fLz (argsLz vwLz) (wayZ 2) hpLz) = some (rstZ 2) := by kernel_rfl
theorem runZ3 : restOf (runX Try.prog (oLz Try.prog) fLz (argsLz vwLz) (wayZ 3) hpLz) = some (rstZ 3) := by kernel_rfl
theorem runZn : restOf (runX Try.prog (oLz Try.prog) fLz (argsLz .nilSl) [] []) = some [] := by kernel_rfl
theorem runZe : restOf (runX Try.prog (oLz Try.prog) fLz (argsLz (.emp 0)) [] []) = some [] := by kernel_rfl
end Go.Proofs.Ytlmenjenkpnacaa
end
