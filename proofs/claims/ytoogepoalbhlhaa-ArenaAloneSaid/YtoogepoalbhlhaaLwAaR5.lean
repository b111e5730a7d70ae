/- ArenaAlone's second loop: some of its rounds. -/
import Derived.Test.YtoogepoalbhlhaaLwXA
import Derived.Test.YtoogepoalbhlhaaLwAaT
set_option linter.unusedVariables false
set_option linter.unusedSimpArgs false

section
namespace Go.Proofs.Ytoogepoalbhlhaa
open Go Go.Sy Go.RowKit

theorem rA1_9 : roundA Try.prog 1 (qAt cases1A 9) = some a1_9 := by kernel_rfl
theorem rA1_10 : roundA Try.prog 1 (qAt cases1A 10) = some a1_10 := by kernel_rfl
end Go.Proofs.Ytoogepoalbhlhaa
end
