/- Those calls, one by one. (Printed by memo.py.) -/
import Derived.Test.YtcbgmkngkkajlaaLwXA
import Derived.Test.YtcbgmkngkkajlaaLwXN
set_option linter.unusedVariables false
set_option linter.unusedSimpArgs false

section
namespace Go.Proofs.Ytcbgmkngkkajlaa
open Go Go.Sy Go.RowKit

theorem mN09_17 : runX Try.prog (oM09 Try.prog) fN09 tN09_17.args tN09_17.pc tN09_17.hp = some oN09_17 := by kernel_rfl
theorem mN09_47 : runX Try.prog (oM09 Try.prog) fN09 tN09_47.args tN09_47.pc tN09_47.hp = some oN09_47 := by kernel_rfl
end Go.Proofs.Ytcbgmkngkkajlaa
end
