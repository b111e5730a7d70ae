/- ArenaAlone's second loop: some of its rounds. -/
import Derived.Test.YtoogepoalbhlhaaLwXA
import Derived.Test.YtoogepoalbhlhaaLwAaT
set_option linter.unusedVariables false
set_option linter.unusedSimpArgs false

section
namespace Go.Proofs.Ytoogepoalbhlhaa
open Go Go.Sy Go.RowKit

theorem rA1_2 : roundA Try.prog 1 (qAt cases1A 2) = some a1_2 := by kernel_rfl
theorem rA1_3 : roundA Try.prog 1 (qAt cases1A 3) = some a1_3 := by kernel_rfl
theorem rA1_4 : roundA Try.prog 1 (qAt cases1A 4) = some a1_4 := by kernel_rfl
end Go.Proofs.Ytoogepoalbhlhaa
end
