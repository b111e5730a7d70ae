/- Those calls, one by one. (Printed by memo.py.) -/
import Derived.Test.YtcbgmkngkkajlaaLwXA
import Derived.Test.YtcbgmkngkkajlaaLwXM
set_option linter.unusedVariables false
set_option linter.unusedSimpArgs false

section
namespace Go.Proofs.Ytcbgmkngkkajlaa
open Go Go.Sy Go.RowKit

theorem mM09_0 : runX Try.prog (oS09 Try.prog) fM09 tM09_0.args tM09_0.pc tM09_0.hp = some oM09_0 := by kernel_rfl
theorem mM09_4 : runX Try.prog (oS09 Try.prog) fM09 tM09_4.args tM09_4.pc tM09_4.hp = some oM09_4 := by kernel_rfl
theorem mM09_8 : runX Try.prog (oS09 Try.prog) fM09 tM09_8.args tM09_8.pc tM09_8.hp = some oM09_8 := by kernel_rfl
theorem mM09_12 : runX Try.prog (oS09 Try.prog) fM09 tM09_12.args tM09_12.pc tM09_12.hp = some oM09_12 := by kernel_rfl
theorem mM09_16 : runX Try.prog (oS09 Try.prog) fM09 tM09_16.args tM09_16.pc tM09_16.hp = some oM09_16 := by kernel_rfl
theorem mM09_20 : runX Try.prog (oS09 Try.prog) fM09 tM09_20.args tM09_20.pc tM09_20.hp = some oM09_20 := by kernel_rfl
theorem mM09_24 : runX Try.prog (oS09 Try.prog) fM09 tM09_24.args tM09_24.pc tM09_24.hp = some oM09_24 := by kernel_rfl
theorem mM09_28 : runX Try.prog (oS09 Try.prog) fM09 tM09_28.args tM09_28.pc tM09_28.hp = some oM09_28 := by kernel_rfl
theorem mM09_32 : runX Try.prog (oS09 Try.prog) fM09 tM09_32.args tM09_32.pc tM09_32.hp = some oM09_32 := by kernel_rfl
theorem mM09_36 : runX Try.prog (oS09 Try.prog) fM09 tM09_36.args tM09_36.pc tM09_36.hp = some oM09_36 := by kernel_rfl
theorem mM09_40 : runX Try.prog (oS09 Try.prog) fM09 tM09_40.args tM09_40.pc tM09_40.hp = some oM09_40 := by kernel_rfl
theorem mM09_44 : runX Try.prog (oS09 Try.prog) fM09 tM09_44.args tM09_44.pc tM09_44.hp = some oM09_44 := by kernel_rfl
theorem mM09_48 : runX Try.prog (oS09 Try.prog) fM09 tM09_48.args tM09_48.pc tM09_48.hp = some oM09_48 := by kernel_rfl
theorem mM09_52 : runX Try.prog (oS09 Try.prog) fM09 tM09_52.args tM09_52.pc tM09_52.hp = some oM09_52 := by kernel_rfl
theorem mM09_56 : runX Try.prog (oS09 Try.prog) fM09 tM09_56.args tM09_56.pc tM09_56.hp = some oM09_56 := by kernel_rfl
theorem mM09_60 : runX Try.prog (oS09 Try.prog) fM09 tM09_60.args tM09_60.pc tM09_60.hp = some oM09_60 := by kernel_rfl
end Go.Proofs.Ytcbgmkngkkajlaa
end
