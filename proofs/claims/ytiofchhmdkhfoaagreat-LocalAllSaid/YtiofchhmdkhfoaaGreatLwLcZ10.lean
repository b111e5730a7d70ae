/- The law coachyardlaw13.LocalAll: its runs. -/
import Derived.Test.YtiofchhmdkhfoaaGreatLwXA
import Derived.Test.YtiofchhmdkhfoaaGreatLwXQ
set_option linter.unusedVariables false
set_option linter.unusedSimpArgs false

section
namespace Go.Proofs.YtiofchhmdkhfoaaGreat
open Go Go.Sy Go.RowKit

theorem runC10 : restOf (runX Tryz.prog (oLc Tryz.prog) fLc (argsLc (.lit 1) vwLc) (wayLc 1 0) hpLc) = some (rstC1 0) := by kernel_rfl
theorem runC11 : restOf (runX Tryz.prog (oLc Tryz.prog) fLc (argsLc (.lit 1) vwLc) (wayLc 1 1) hpLc) = some (rstC1 1) := by kernel_rfl
theorem runC12 : restOf (runX Tryz.prog (oLc Tryz.prog) fLc (argsLc (.lit 1) vwLc) (wayLc 1 2) hpLc) = some (rstC1 2) := by kernel_rfl
theorem runC13 : restOf (runX Tryz.prog (oLc Tryz.prog) fLc (argsLc (.lit 1) vwLc) (wayLc 1 3) hpLc) = some (rstC1 3) := by kernel_rfl
theorem runC14 : restOf (runX Tryz.prog (oLc Tryz.prog) fLc (argsLc (.lit 1) vwLc) (wayLc 1 4) hpLc) = some (rstC1 4) := by kernel_rfl
theorem runC15 : restOf (runX Tryz.prog (oLc Tryz.prog) fLc (argsLc (.lit 1) vwLc) (wayLc 1 5) hpLc) = some (rstC1 5) := by kernel_rfl
end Go.Proofs.YtiofchhmdkhfoaaGreat
end
