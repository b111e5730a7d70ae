/- The law coachyardlaw07.DequeSteps: its runs, begun one way. -/
import Derived.Test.YtlmenjenkpnacaaLwXD
set_option linter.unusedVariables false
set_option linter.unusedSimpArgs false

section
namespace Go.Proofs.Ytlmenjenkpnacaa
open Go Go.Sy Go.RowKit

theorem runS7v3 : restOf (runX Try.prog (oS7 Try.prog) fS7 (argsS7 tldV) (wayS7 3 ++ pcS7) hpS7) = some [] := by kernel_rfl
theorem runS7n3 : restOf (runX Try.prog (oS7 Try.prog) fS7 (argsS7 .nilSl) (wayS7 3) []) = some [] := by kernel_rfl
theorem runS7e3 : restOf (runX Try.prog (oS7 Try.prog) fS7 (argsS7 (.emp 0)) (wayS7 3) []) = some [] := by kernel_rfl
end Go.Proofs.Ytlmenjenkpnacaa
end
