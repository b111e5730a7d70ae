/- Those calls, one by one. (Printed by memo.py.) -/
import Derived.Test.YtiofchhmdkhfoaaGreatLwXA
import Derived.Test.YtiofchhmdkhfoaaGreatLwXM
set_option linter.unusedVariables false
set_option linter.unusedSimpArgs false

section
namespace Go.Proofs.YtiofchhmdkhfoaaGreat
open Go Go.Sy Go.RowKit

theorem mM13_1_0 : runX Tryz.prog (oS13 Tryz.prog) fM13 tM13_1_0.args tM13_1_0.pc tM13_1_0.hp = some oM13_1_0 := by kernel_rfl
theorem mM13_3_0 : runX Tryz.prog (oS13 Tryz.prog) fM13 tM13_3_0.args tM13_3_0.pc tM13_3_0.hp = some oM13_3_0 := by kernel_rfl
theorem mM13_4_2 : runX Tryz.prog (oS13 Tryz.prog) fM13 tM13_4_2.args tM13_4_2.pc tM13_4_2.hp = some oM13_4_2 := by kernel_rfl
theorem mM13_6_1 : runX Tryz.prog (oS13 Tryz.prog) fM13 tM13_6_1.args tM13_6_1.pc tM13_6_1.hp = some oM13_6_1 := by kernel_rfl
theorem mM13_8_0 : runX Tryz.prog (oS13 Tryz.prog) fM13 tM13_8_0.args tM13_8_0.pc tM13_8_0.hp = some oM13_8_0 := by kernel_rfl
theorem mM13_10_0 : runX Tryz.prog (oS13 Tryz.prog) fM13 tM13_10_0.args tM13_10_0.pc tM13_10_0.hp = some oM13_10_0 := by kernel_rfl
theorem mM13_11_1 : runX Tryz.prog (oS13 Tryz.prog) fM13 tM13_11_1.args tM13_11_1.pc tM13_11_1.hp = some oM13_11_1 := by kernel_rfl
theorem mM13_13_0 : runX Tryz.prog (oS13 Tryz.prog) fM13 tM13_13_0.args tM13_13_0.pc tM13_13_0.hp = some oM13_13_0 := by kernel_rfl
end Go.Proofs.YtiofchhmdkhfoaaGreat
end
