/- LaneAlone's loop: some of its rounds. -/
import Derived.Test.YtlmenjenkpnacaaLwXA
import Derived.Test.YtlmenjenkpnacaaLwLaT
set_option linter.unusedVariables false
set_option linter.unusedSimpArgs false

section
namespace Go.Proofs.Ytlmenjenkpnacaa
open Go Go.Sy Go.RowKit

theorem rL1_3 : roundL Try.prog 1 (qAt cases1 3) = some u1_3 := by kernel_rfl
end Go.Proofs.Ytlmenjenkpnacaa
end
