/- Those calls, one by one. (Printed by memo.py.) -/
import Derived.Test.YtiofchhmdkhfoaaGreatLwXA
import Derived.Test.YtiofchhmdkhfoaaGreatLwXM
set_option linter.unusedVariables false
set_option linter.unusedSimpArgs false

section
namespace Go.Proofs.YtiofchhmdkhfoaaGreat
open Go Go.Sy Go.RowKit

theorem mM13_1_1 : runX Tryz.prog (oS13 Tryz.prog) fM13 tM13_1_1.args tM13_1_1.pc tM13_1_1.hp = some oM13_1_1 := by kernel_rfl
theorem mM13_3_1 : runX Tryz.prog (oS13 Tryz.prog) fM13 tM13_3_1.args tM13_3_1.pc tM13_3_1.hp = some oM13_3_1 := by kernel_rfl
theorem mM13_5_0 : runX Tryz.prog (oS13 Tryz.prog) fM13 tM13_5_0.args tM13_5_0.pc tM13_5_0.hp = some oM13_5_0 := by kernel_rfl
theorem mM13_6_2 : runX Tryz.prog (oS13 Tryz.prog) fM13 tM13_6_2.args tM13_6_2.pc tM13_6_2.hp = some oM13_6_2 := by kernel_rfl
theorem mM13_8_1 : runX Tryz.prog (oS13 Tryz.prog) fM13 tM13_8_1.args tM13_8_1.pc tM13_8_1.hp = some oM13_8_1 := by kernel_rfl
theorem mM13_10_1 : runX Tryz.prog (oS13 Tryz.prog) fM13 tM13_10_1.args tM13_10_1.pc tM13_10_1.hp = some oM13_10_1 := by kernel_rfl
theorem mM13_12_0 : runX Tryz.prog (oS13 Tryz.prog) fM13 tM13_12_0.args tM13_12_0.pc tM13_12_0.hp = some oM13_12_0 := by kernel_rfl
theorem mM13_14_0 : runX Tryz.prog (oS13 Tryz.prog) fM13 tM13_14_0.args tM13_14_0.pc tM13_14_0.hp = some oM13_14_0 := by kernel_rfl
end Go.Proofs.YtiofchhmdkhfoaaGreat
end
