/- Those calls, one by one. (Printed by memo.py.) -/
import Derived.Test.YtcbgmkngkkajlaaLwXA
import Derived.Test.YtcbgmkngkkajlaaLwXM
set_option linter.unusedVariables false
set_option linter.unusedSimpArgs false

section
namespace Go.Proofs.Ytcbgmkngkkajlaa
open Go Go.Sy Go.RowKit

theorem mM09_2 : runX Try.prog (oS09 Try.prog) fM09 tM09_2.args tM09_2.pc tM09_2.hp = some oM09_2 := by kernel_rfl
theorem mM09_6 : runX Try.prog (oS09 Try.prog) fM09 tM09_6.args tM09_6.pc tM09_6.hp = some oM09_6 := by kernel_rfl
theorem mM09_10 : runX Try.prog (oS09 Try.prog) fM09 tM09_10.args tM09_10.pc tM09_10.hp = some oM09_10 := by kernel_rfl
theorem mM09_14 : runX Try.prog (oS09 Try.prog) fM09 tM09_14.args tM09_14.pc tM09_14.hp = some oM09_14 := by kernel_rfl
theorem mM09_18 : runX Try.prog (oS09 Try.prog) fM09 tM09_18.args tM09_18.pc tM09_18.hp = some oM09_18 := by kernel_rfl
theorem mM09_22 : runX Try.prog (oS09 Try.prog) fM09 tM09_22.args tM09_22.pc tM09_22.hp = some oM09_22 := by kernel_rfl
theorem mM09_26 : runX Try.prog (oS09 Try.prog) fM09 tM09_26.args tM09_26.pc tM09_26.hp = some oM09_26 := by kernel_rfl
theorem mM09_30 : runX Try.prog (oS09 Try.prog) fM09 tM09_30.args tM09_30.pc tM09_30.hp = some oM09_30 := by kernel_rfl
theorem mM09_34 : runX Try.prog (oS09 Try.prog) fM09 tM09_34.args tM09_34.pc tM09_34.hp = some oM09_34 := by kernel_rfl
theorem mM09_38 : runX Try.prog (oS09 Try.prog) fM09 tM09_38.args tM09_38.pc tM09_38.hp = some oM09_38 := by kernel_rfl
theorem mM09_42 : runX Try.prog (oS09 Try.prog) fM09 tM09_42.args tM09_42.pc tM09_42.hp = some oM09_42 := by kernel_rfl
theorem mM09_46 : runX Try.prog (oS09 Try.prog) fM09 tM09_46.args tM09_46.pc tM09_46.hp = some oM09_46 := by kernel_rfl
theorem mM09_50 : runX Try.prog (oS09 Try.prog) fM09 tM09_50.args tM09_50.pc tM09_50.hp = some oM09_50 := by kernel_rfl
theorem mM09_54 : runX Try.prog (oS09 Try.prog) fM09 tM09_54.args tM09_54.pc tM09_54.hp = some oM09_54 := by kernel_rfl
theorem mM09_58 : runX Try.prog (oS09 Try.prog) fM09 tM09_58.args tM09_58.pc tM09_58.hp = some oM09_58 := by kernel_rfl
end Go.Proofs.Ytcbgmkngkkajlaa
end
