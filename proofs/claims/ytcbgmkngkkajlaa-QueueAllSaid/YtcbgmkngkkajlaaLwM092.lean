/- Those calls, one by one. (Printed by memo.py.) -/
import Derived.Test.YtcbgmkngkkajlaaLwXA
import Derived.Test.YtcbgmkngkkajlaaLwXM
set_option linter.unusedVariables false
set_option linter.unusedSimpArgs false

section
namespace Go.Proofs.Ytcbgmkngkkajlaa
open Go Go.Sy Go.RowKit

theorem mM09_1 : runX Try.prog (oS09 Try.prog) fM09 tM09_1.args tM09_1.pc tM09_1.hp = some oM09_1 := by kernel_rfl
theorem mM09_5 : runX Try.prog (oS09 Try.prog) fM09 tM09_5.args tM09_5.pc tM09_5.hp = some oM09_5 := by kernel_rfl
theorem mM09_9 : runX Try.prog (oS09 Try.prog) fM09 tM09_9.args tM09_9.pc tM09_9.hp = some oM09_9 := by kernel_rfl
theorem mM09_13 : runX Try.prog (oS09 Try.prog) fM09 tM09_13.args tM09_13.pc tM09_13.hp = some oM09_13 := by kernel_rfl
theorem mM09_17 : runX Try.prog (oS09 Try.prog) fM09 tM09_17.args tM09_17.pc tM09_17.hp = some oM09_17 := by kernel_rfl
theorem mM09_21 : runX Try.prog (oS09 Try.prog) fM09 tM09_21.args tM09_21.pc tM09_21.hp = some oM09_21 := by kernel_rfl
theorem mM09_25 : runX Try.prog (oS09 Try.prog) fM09 tM09_25.args tM09_25.pc tM09_25.hp = some oM09_25 := by kernel_rfl
theorem mM09_29 : runX Try.prog (oS09 Try.prog) fM09 tM09_29.args tM09_29.pc tM09_29.hp = some oM09_29 := by kernel_rfl
theorem mM09_33 : runX Try.prog (oS09 Try.prog) fM09 tM09_33.args tM09_33.pc tM09_33.hp = some oM09_33 := by kernel_rfl
theorem mM09_37 : runX Try.prog (oS09 Try.prog) fM09 tM09_37.args tM09_37.pc tM09_37.hp = some oM09_37 := by kernel_rfl
theorem mM09_41 : runX Try.prog (oS09 Try.prog) fM09 tM09_41.args tM09_41.pc tM09_41.hp = some oM09_41 := by kernel_rfl
theorem mM09_45 : runX Try.prog (oS09 Try.prog) fM09 tM09_45.args tM09_45.pc tM09_45.hp = some oM09_45 := by kernel_rfl
theorem mM09_49 : runX Try.prog (oS09 Try.prog) fM09 tM09_49.args tM09_49.pc tM09_49.hp = some oM09_49 := by kernel_rfl
theorem mM09_53 : runX Try.prog (oS09 Try.prog) fM09 tM09_53.args tM09_53.pc tM09_53.hp = some oM09_53 := by kernel_rfl
theorem mM09_57 : runX Try.prog (oS09 Try.prog) fM09 tM09_57.args tM09_57.pc tM09_57.hp = some oM09_57 := by kernel_rfl
end Go.Proofs.Ytcbgmkngkkajlaa
end
