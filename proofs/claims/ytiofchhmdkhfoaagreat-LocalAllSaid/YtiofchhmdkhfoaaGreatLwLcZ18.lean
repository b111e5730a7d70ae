/- The law coachyardlaw13.LocalAll: its runs. -/
import Derived.Test.YtiofchhmdkhfoaaGreatLwXA
import Derived.Test.YtiofchhmdkhfoaaGreatLwXQ
set_option linter.unusedVariables false
set_option linter.unusedSimpArgs false

section
namespace Go.Proofs.YtiofchhmdkhfoaaGreat
open Go Go.Sy Go.RowKit

theorem runC18 : restOf (runX Tryz.prog (oLc Tryz.prog) fLc (argsLc (.lit 1) vwLc) (wayLc 1 8) hpLc) = some (rstC1 8) := by kernel_rfl
theorem runC19 : restOf (runX Tryz.prog (oLc Tryz.prog) fLc (argsLc (.lit 1) vwLc) (wayLc 1 9) hpLc) = some (rstC1 9) := by kernel_rfl
end Go.Proofs.YtiofchhmdkhfoaaGreat
end
