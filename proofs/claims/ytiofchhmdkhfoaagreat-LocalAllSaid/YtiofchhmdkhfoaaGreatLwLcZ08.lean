/- The law coachyardlaw13.LocalAll: its runs. -/
import Derived.Test.YtiofchhmdkhfoaaGreatLwXA
import Derived.Test.YtiofchhmdkhfoaaGreatLwXQ
set_option linter.unusedVariables false
set_option linter.unusedSimpArgs false

section
namespace Go.Proofs.YtiofchhmdkhfoaaGreat
open Go Go.Sy Go.RowKit

theorem runC08 : restOf (runX Tryz.prog (oLc Tryz.prog) fLc (argsLc (.lit 0) vwLc) (wayLc 0 8) hpLc) = some (rstC0 8) := by kernel_rfl
theorem runC09 : restOf (runX Tryz.prog (oLc Tryz.prog) fLc (argsLc (.lit 0) vwLc) (wayLc 0 9) hpLc) = some (rstC0 9) := by kernel_rfl
end Go.Proofs.YtiofchhmdkhfoaaGreat
end
