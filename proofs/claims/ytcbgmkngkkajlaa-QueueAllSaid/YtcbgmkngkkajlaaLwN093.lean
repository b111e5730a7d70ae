/- Those calls, one by one. (Printed by memo.py.) -/
import Derived.Test.YtcbgmkngkkajlaaLwXA
import Derived.Test.YtcbgmkngkkajlaaLwXN
set_option linter.unusedVariables false
set_option linter.unusedSimpArgs false

section
namespace Go.Proofs.Ytcbgmkngkkajlaa
open Go Go.Sy Go.RowKit

theorem mN09_18 : runX Try.prog (oM09 Try.prog) fN09 tN09_18.args tN09_18.pc tN09_18.hp = some oN09_18 := by kernel_rfl
theorem mN09_56 : runX Try.prog (oM09 Try.prog) fN09 tN09_56.args tN09_56.pc tN09_56.hp = some oN09_56 := by kernel_rfl
end Go.Proofs.Ytcbgmkngkkajlaa
end
