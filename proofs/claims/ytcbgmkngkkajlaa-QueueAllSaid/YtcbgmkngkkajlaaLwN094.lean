/- Those calls, one by one. (Printed by memo.py.) -/
import Derived.Test.YtcbgmkngkkajlaaLwXA
import Derived.Test.YtcbgmkngkkajlaaLwXN
set_option linter.unusedVariables false
set_option linter.unusedSimpArgs false

section
namespace Go.Proofs.Ytcbgmkngkkajlaa
open Go Go.Sy Go.RowKit

theorem mN09_27 : runX Try.prog (oM09 Try.prog) fN09 tN09_27.args tN09_27.pc tN09_27.hp = some oN09_27 := by kernel_rfl
end Go.Proofs.Ytcbgmkngkkajlaa
end
