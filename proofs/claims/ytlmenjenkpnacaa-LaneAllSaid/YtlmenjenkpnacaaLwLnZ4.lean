/- The law coachyardlaw32.LaneAll: its runs. -/
import Derived.Test.YtlmenjenkpnacaaLwXA
import Derived.Test.YtlmenjenkpnacaaLwXP
set_option linter.unusedVariables false
set_option linter.unusedSimpArgs false

section
namespace Go.Proofs.Ytlmenjenkpnacaa
open Go Go.Sy Go.RowKit

theorem runZ4 : restOf (runX Try.prog (oLz Try.prog) fLz (argsLz vwLz) (wayZ 4) hpLz) = some (rstZ 4) := by kernel_rfl
end Go.Proofs.Ytlmenjenkpnacaa
end
