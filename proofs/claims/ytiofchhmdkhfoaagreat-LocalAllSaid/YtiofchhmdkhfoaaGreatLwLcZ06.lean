/- The law coachyardlaw13.LocalAll: its runs. -/
import Derived.Test.YtiofchhmdkhfoaaGreatLwXA
import Derived.Test.YtiofchhmdkhfoaaGreatLwXQ
set_option linter.unusedVariables false
set_option linter.unusedSimpArgs false

section
namespace Go.Proofs.YtiofchhmdkhfoaaGreat
open Go Go.Sy Go.RowKit

theorem runC06 : restOf (runX Tryz.prog (oLc Tryz.prog) fLc (argsLc (.lit 0) vwLc) (wayLc 0 6) hpLc) = some (rstC0 6) := by kernel_rfl
theorem runC07 : restOf (runX Tryz.prog (oLc Tryz.prog) fLc (argsLc (.lit 0) vwLc) (wayLc 0 7) hpLc) = some (rstC0 7) := by kernel_rfl
end Go.Proofs.YtiofchhmdkhfoaaGreat
end
