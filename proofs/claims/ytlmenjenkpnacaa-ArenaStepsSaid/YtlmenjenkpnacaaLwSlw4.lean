/- The law coachyardlaw06.ArenaSteps: its runs, begun one way. -/
import Derived.Test.YtlmenjenkpnacaaLwXC
set_option linter.unusedVariables false
set_option linter.unusedSimpArgs false

section
namespace Go.Proofs.Ytlmenjenkpnacaa
open Go Go.Sy Go.RowKit

theorem runSlv4 : restOf (runX Try.prog (oSl Try.prog) fSl (argsSl tldV) (wayS 4 ++ pcSl) hpSl) = some [] := by kernel_rfl
theorem runSln4 : restOf (runX Try.prog (oSl Try.prog) fSl (argsSl .nilSl) (wayS 4) []) = some [] := by kernel_rfl
theorem runSle4 : restOf (runX Try.prog (oSl Try.prog) fSl (argsSl (.emp 0)) (wayS 4) []) = some [] := by kernel_rfl
end Go.Proofs.Ytlmenjenkpnacaa
end
