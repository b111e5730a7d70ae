/- Those calls, one by one. (Printed by memo.py.) -/
import Derived.Test.YtcbgmkngkkajlaaLwXA
import Derived.Test.YtcbgmkngkkajlaaLwXN
set_option linter.unusedVariables false
set_option linter.unusedSimpArgs false

section
namespace Go.Proofs.Ytcbgmkngkkajlaa
open Go Go.Sy Go.RowKit

theorem mN09_0 : runX Try.prog (oM09 Try.prog) fN09 tN09_0.args tN09_0.pc tN09_0.hp = some oN09_0 := by kernel_rfl
theorem mN09_38 : runX Try.prog (oM09 Try.prog) fN09 tN09_38.args tN09_38.pc tN09_38.hp = some oN09_38 := by kernel_rfl
end Go.Proofs.Ytcbgmkngkkajlaa
end
