/- Those calls, one by one. (Printed by memo.py.) -/
import Derived.Test.YtcbgmkngkkajlaaLwXA
import Derived.Test.YtcbgmkngkkajlaaLwXM
set_option linter.unusedVariables false
set_option linter.unusedSimpArgs false

section
namespace Go.Proofs.Ytcbgmkngkkajlaa
open Go Go.Sy Go.RowKit

theorem mM09_3 : runX Try.prog (oS09 Try.prog) fM09 tM09_3.args tM09_3.pc tM09_3.hp = some oM09_3 := by kernel_rfl
theorem mM09_7 : runX Try.prog (oS09 Try.prog) fM09 tM09_7.args tM09_7.pc tM09_7.hp = some oM09_7 := by kernel_rfl
theorem mM09_11 : runX Try.prog (oS09 Try.prog) fM09 tM09_11.args tM09_11.pc tM09_11.hp = some oM09_11 := by kernel_rfl
theorem mM09_15 : runX Try.prog (oS09 Try.prog) fM09 tM09_15.args tM09_15.pc tM09_15.hp = some oM09_15 := by kernel_rfl
theorem mM09_19 : runX Try.prog (oS09 Try.prog) fM09 tM09_19.args tM09_19.pc tM09_19.hp = some oM09_19 := by kernel_rfl
theorem mM09_23 : runX Try.prog (oS09 Try.prog) fM09 tM09_23.args tM09_23.pc tM09_23.hp = some oM09_23 := by kernel_rfl
theorem mM09_27 : runX Try.prog (oS09 Try.prog) fM09 tM09_27.args tM09_27.pc tM09_27.hp = some oM09_27 := by kernel_rfl
theorem mM09_31 : runX Try.prog (oS09 Try.prog) fM09 tM09_31.args tM09_31.pc tM09_31.hp = some oM09_31 := by kernel_rfl
theorem mM09_35 : runX Try.prog (oS09 Try.prog) fM09 tM09_35.args tM09_35.pc tM09_35.hp = some oM09_35 := by kernel_rfl
theorem mM09_39 : runX Try.prog (oS09 Try.prog) fM09 tM09_39.args tM09_39.pc tM09_39.hp = some oM09_39 := by kernel_rfl
theorem mM09_43 : runX Try.prog (oS09 Try.prog) fM09 tM09_43.args tM09_43.pc tM09_43.hp = some oM09_43 := by kernel_rfl
theorem mM09_47 : runX Try.prog (oS09 Try.prog) fM09 tM09_47.args tM09_47.pc tM09_47.hp = some oM09_47 := by kernel_rfl
theorem mM09_51 : runX Try.prog (oS09 Try.prog) fM09 tM09_51.args tM09_51.pc tM09_51.hp = some oM09_51 := by kernel_rfl
theorem mM09_55 : runX Try.prog (oS09 Try.prog) fM09 tM09_55.args tM09_55.pc tM09_55.hp = some oM09_55 := by kernel_rfl
theorem mM09_59 : runX Try.prog (oS09 Try.prog) fM09 tM09_59.args tM09_59.pc tM09_59.hp = some oM09_59 := by kernel_rfl
end Go.Proofs.Ytcbgmkngkkajlaa
end
