/- ArenaAlone's second loop: some of its rounds. -/
import Derived.Test.YtoogepoalbhlhaaLwXA
import Derived.Test.YtoogepoalbhlhaaLwAaT
set_option linter.unusedVariables false
set_option linter.unusedSimpArgs false

section
namespace Go.Proofs.Ytoogepoalbhlhaa
open Go Go.Sy Go.RowKit

theorem rA1_5 : roundA Try.prog 1 (qAt cases1A 5) = some a1_5 := by kernel_rfl
theorem rA1_6 : roundA Try.prog 1 (qAt cases1A 6) = some a1_6 := by kernel_rfl
end Go.Proofs.Ytoogepoalbhlhaa
end
