/- LaneAlone's loop: some of its rounds. -/
import Derived.Test.YtlmenjenkpnacaaLwXA
import Derived.Test.YtlmenjenkpnacaaLwLaT
set_option linter.unusedVariables false
set_option linter.unusedSimpArgs false

section
namespace Go.Proofs.Ytlmenjenkpnacaa
open Go Go.Sy Go.RowKit

theorem rL0_0 : roundL Try.prog 0 (qAt cases0 0) = some u0_0 := by kernel_rfl
theorem rL0_1 : roundL Try.prog 0 (qAt cases0 1) = some u0_1 := by kernel_rfl
theorem rL0_2 : roundL Try.prog 0 (qAt cases0 2) = some u0_2 := by kernel_rfl
theorem rL1_0 : roundL Try.prog 1 (qAt cases1 0) = some u1_0 := by kernel_rfl
theorem rL1_4 : roundL Try.prog 1 (qAt cases1 4) = some u1_4 := by kernel_rfl
end Go.Proofs.Ytlmenjenkpnacaa
end
