/- ArenaAlone's second loop: some of its rounds. -/
import Derived.Test.YtoogepoalbhlhaaLwXA
import Derived.Test.YtoogepoalbhlhaaLwAaT
set_option linter.unusedVariables false
set_option linter.unusedSimpArgs false

section
namespace Go.Proofs.Ytoogepoalbhlhaa
open Go Go.Sy Go.RowKit

theorem rA1_7 : roundA Try.prog 1 (qAt cases1A 7) = some a1_7 := by kernel_rfl
theorem rA1_8 : roundA Try.prog 1 (qAt cases1A 8) = some a1_8 := by kernel_rfl
end Go.Proofs.Ytoogepoalbhlhaa
end
