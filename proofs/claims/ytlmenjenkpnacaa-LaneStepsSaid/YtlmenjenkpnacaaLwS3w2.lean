/- The law coachyardlaw32.LaneSteps: its runs, begun one way. -/
import Derived.Test.YtlmenjenkpnacaaLwXD
set_option linter.unusedVariables false
set_option linter.unusedSimpArgs false

section
namespace Go.Proofs.Ytlmenjenkpnacaa
open Go Go.Sy Go.RowKit

theorem runS3v2 : restOf (runX Try.prog (oS3 Try.prog) fS3 (argsS3 tldV) (wayS3 2 ++ pcS3) hpS3) = some [] := by kernel_rfl
theorem runS3n2 : restOf (runX Try.prog (oS3 Try.prog) fS3 (argsS3 .nilSl) (wayS3 2) []) = some [] := by kernel_rfl
theorem runS3e2 : restOf (runX Try.prog (oS3 Try.prog) fS3 (argsS3 (.emp 0)) (wayS3 2) []) = some [] := by kernel_rfl
end Go.Proofs.Ytlmenjenkpnacaa
end
