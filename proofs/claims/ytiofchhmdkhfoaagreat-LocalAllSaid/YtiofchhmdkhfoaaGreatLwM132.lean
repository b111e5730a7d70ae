/- Those calls, one by one. (Printed by memo.py.) -/
import Derived.Test.YtiofchhmdkhfoaaGreatLwXA
import Derived.Test.YtiofchhmdkhfoaaGreatLwXM
set_option linter.unusedVariables false
set_option linter.unusedSimpArgs false

section
namespace Go.Proofs.YtiofchhmdkhfoaaGreat
open Go Go.Sy Go.RowKit

theorem mM13_0_1 : runX Tryz.prog (oS13 Tryz.prog) fM13 tM13_0_1.args tM13_0_1.pc tM13_0_1.hp = some oM13_0_1 := by kernel_rfl
theorem mM13_2_1 : runX Tryz.prog (oS13 Tryz.prog) fM13 tM13_2_1.args tM13_2_1.pc tM13_2_1.hp = some oM13_2_1 := by kernel_rfl
theorem mM13_4_1 : runX Tryz.prog (oS13 Tryz.prog) fM13 tM13_4_1.args tM13_4_1.pc tM13_4_1.hp = some oM13_4_1 := by kernel_rfl
theorem mM13_6_0 : runX Tryz.prog (oS13 Tryz.prog) fM13 tM13_6_0.args tM13_6_0.pc tM13_6_0.hp = some oM13_6_0 := by kernel_rfl
theorem mM13_7_1 : runX Tryz.prog (oS13 Tryz.prog) fM13 tM13_7_1.args tM13_7_1.pc tM13_7_1.hp = some oM13_7_1 := by kernel_rfl
theorem mM13_9_1 : runX Tryz.prog (oS13 Tryz.prog) fM13 tM13_9_1.args tM13_9_1.pc tM13_9_1.hp = some oM13_9_1 := by kernel_rfl
theorem mM13_11_0 : runX Tryz.prog (oS13 Tryz.prog) fM13 tM13_11_0.args tM13_11_0.pc tM13_11_0.hp = some oM13_11_0 := by kernel_rfl
theorem mM13_12_2 : runX Tryz.prog (oS13 Tryz.prog) fM13 tM13_12_2.args tM13_12_2.pc tM13_12_2.hp = some oM13_12_2 := by kernel_rfl
end Go.Proofs.YtiofchhmdkhfoaaGreat
end
