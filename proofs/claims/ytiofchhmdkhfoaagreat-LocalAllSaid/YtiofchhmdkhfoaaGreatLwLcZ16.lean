/- The law coachyardlaw13.LocalAll: its runs. -/
import Derived.Test.YtiofchhmdkhfoaaGreatLwXA
import Derived.Test.YtiofchhmdkhfoaaGreatLwXQ
set_option linter.unusedVariables false
set_option linter.unusedSimpArgs false

section
namespace Go.Proofs.YtiofchhmdkhfoaaGreat
open Go Go.Sy Go.RowKit

theorem runC16 : restOf (runX Tryz.prog (oLc Tryz.prog) fLc (argsLc (.lit 1) vwLc) (wayLc 1 6) hpLc) = some (rstC1 6) := by kernel_rfl
theorem runC17 : restOf (runX Tryz.prog (oLc Tryz.prog) fLc (argsLc (.lit 1) vwLc) (wayLc 1 7) hpLc) = some (rstC1 7) := by kernel_rfl
end Go.Proofs.YtiofchhmdkhfoaaGreat
end
