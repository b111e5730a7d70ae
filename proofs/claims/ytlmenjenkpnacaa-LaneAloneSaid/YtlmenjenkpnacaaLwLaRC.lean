/- LaneAlone's loop: some of its rounds. -/
import Derived.Test.YtlmenjenkpnacaaLwXA
import Derived.Test.YtlmenjenkpnacaaLwLaT
set_option linter.unusedVariables false
set_option linter.unusedSimpArgs false

section
namespace Go.Proofs.Ytlmenjenkpnacaa
open Go Go.Sy Go.RowKit

theorem rL1_2 : roundL Try.prog 1 (qAt cases1 2) = some u1_2 := by kernel_rfl
end Go.Proofs.Ytlmenjenkpnacaa
end
