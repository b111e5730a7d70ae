/- Those calls, one by one. (Printed by memo.py.) -/
import Derived.Test.YtiofchhmdkhfoaaGreatLwXA
import Derived.Test.YtiofchhmdkhfoaaGreatLwXM
set_option linter.unusedVariables false
set_option linter.unusedSimpArgs false

section
namespace Go.Proofs.YtiofchhmdkhfoaaGreat
open Go Go.Sy Go.RowKit

theorem mM13_0_0 : runX Tryz.prog (oS13 Tryz.prog) fM13 tM13_0_0.args tM13_0_0.pc tM13_0_0.hp = some oM13_0_0 := by kernel_rfl
theorem mM13_2_0 : runX Tryz.prog (oS13 Tryz.prog) fM13 tM13_2_0.args tM13_2_0.pc tM13_2_0.hp = some oM13_2_0 := by kernel_rfl
theorem mM13_4_0 : runX Tryz.prog (oS13 Tryz.prog) fM13 tM13_4_0.args tM13_4_0.pc tM13_4_0.hp = some oM13_4_0 := by kernel_rfl
theorem mM13_5_1 : runX Tryz.prog (oS13 Tryz.prog) fM13 tM13_5_1.args tM13_5_1.pc tM13_5_1.hp = some oM13_5_1 := by kernel_rfl
theorem mM13_7_0 : runX Tryz.prog (oS13 Tryz.prog) fM13 tM13_7_0.args tM13_7_0.pc tM13_7_0.hp = some oM13_7_0 := by kernel_rfl
theorem mM13_9_0 : runX Tryz.prog (oS13 Tryz.prog) fM13 tM13_9_0.args tM13_9_0.pc tM13_9_0.hp = some oM13_9_0 := by kernel_rfl
theorem mM13_10_2 : runX Tryz.prog (oS13 Tryz.prog) fM13 tM13_10_2.args tM13_10_2.pc tM13_10_2.hp = some oM13_10_2 := by kernel_rfl
theorem mM13_12_1 : runX Tryz.prog (oS13 Tryz.prog) fM13 tM13_12_1.args tM13_12_1.pc tM13_12_1.hp = some oM13_12_1 := by kernel_rfl
end Go.Proofs.YtiofchhmdkhfoaaGreat
end
