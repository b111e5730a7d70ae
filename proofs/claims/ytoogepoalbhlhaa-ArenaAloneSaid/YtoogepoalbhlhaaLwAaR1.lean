/- ArenaAlone's second loop: some of its rounds. -/
import Derived.Test.YtoogepoalbhlhaaLwXA
import Derived.Test.YtoogepoalbhlhaaLwAaT
set_option linter.unusedVariables false
set_option linter.unusedSimpArgs false

section
namespace Go.Proofs.Ytoogepoalbhlhaa
open Go Go.Sy Go.RowKit

theorem rA0_0 : roundA Try.prog 0 (qAt cases0A 0) = some a0_0 := by kernel_rfl
theorem rA0_1 : roundA Try.prog 0 (qAt cases0A 1) = some a0_1 := by kernel_rfl
theorem rA0_2 : roundA Try.prog 0 (qAt cases0A 2) = some a0_2 := by kernel_rfl
theorem rA1_0 : roundA Try.prog 1 (qAt cases1A 0) = some a1_0 := by kernel_rfl
theorem rA1_1 : roundA Try.prog 1 (qAt cases1A 1) = some a1_1 := by kernel_rfl
end Go.Proofs.Ytoogepoalbhlhaa
end
