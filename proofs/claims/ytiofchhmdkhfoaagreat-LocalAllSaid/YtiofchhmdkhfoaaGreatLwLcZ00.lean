/- The law coachyardlaw13.LocalAll: its runs. -/
import Derived.Test.YtiofchhmdkhfoaaGreatLwXA
import Derived.Test.YtiofchhmdkhfoaaGreatLwXQ
set_option linter.unusedVariables false
set_option linter.unusedSimpArgs false

section
namespace Go.Proofs.YtiofchhmdkhfoaaGreat
open Go Go.Sy Go.RowKit

theorem runC00 : restOf (runX Tryz.prog (oLc Tryz.prog) fLc (argsLc (.lit 0) vwLc) (wayLc 0 0) hpLc) = some (rstC0 0) := by kernel_rfl
theorem runC01 : restOf (runX Tryz.prog (oLc Tryz.prog) fLc (argsLc (.lit 0) vwLc) (wayLc 0 1) hpLc) = some (rstC0 1) := by kernel_rfl
theorem runC02 : restOf (runX Tryz.prog (oLc Tryz.prog) fLc (argsLc (.lit 0) vwLc) (wayLc 0 2) hpLc) = some (rstC0 2) := by kernel_rfl
theorem runC03 : restOf (runX Tryz.prog (oLc Tryz.prog) fLc (argsLc (.lit 0) vwLc) (wayLc 0 3) hpLc) = some (rstC0 3) := by kernel_rfl
theorem runC04 : restOf (runX Tryz.prog (oLc Tryz.prog) fLc (argsLc (.lit 0) vwLc) (wayLc 0 4) hpLc) = some (rstC0 4) := by kernel_rfl
theorem runC05 : restOf (runX Tryz.prog (oLc Tryz.prog) fLc (argsLc (.lit 0) vwLc) (wayLc 0 5) hpLc) = some (rstC0 5) := by kernel_rfl
end Go.Proofs.YtiofchhmdkhfoaaGreat
end

section
namespace Go.Proofs.YtiofchhmdkhfoaaGreat
open Go Go.Sy Go.RowKit

theorem runCx : restOf (runX Tryz.prog (oLc Tryz.prog) fLc (argsLc (.var 13) vwLc) (pcLx ++ pcLc) hpLc) = some rstCx := by kernel_rfl
theorem runCn : restOf (runX Tryz.prog (oLc Tryz.prog) fLc (argsLc (.var 13) .nilSl) [] []) = some [] := by kernel_rfl
theorem runCe : restOf (runX Tryz.prog (oLc Tryz.prog) fLc (argsLc (.var 13) (.emp 0)) [] []) = some [] := by kernel_rfl
end Go.Proofs.YtiofchhmdkhfoaaGreat
end
