/- Those calls, one by one. (Printed by memo.py.) -/
import Derived.Test.YtlmenjenkpnacaaLwXA
import Derived.Test.YtlmenjenkpnacaaLwXM
set_option linter.unusedVariables false
set_option linter.unusedSimpArgs false

section
namespace Go.Proofs.Ytlmenjenkpnacaa
open Go Go.Sy Go.RowKit

theorem mM32_1 : runX Try.prog (oS32 Try.prog) fM32 tM32_1.args tM32_1.pc tM32_1.hp = some oM32_1 := by kernel_rfl
theorem mM32_5 : runX Try.prog (oS32 Try.prog) fM32 tM32_5.args tM32_5.pc tM32_5.hp = some oM32_5 := by kernel_rfl
theorem mM32_9 : runX Try.prog (oS32 Try.prog) fM32 tM32_9.args tM32_9.pc tM32_9.hp = some oM32_9 := by kernel_rfl
theorem mM32_13 : runX Try.prog (oS32 Try.prog) fM32 tM32_13.args tM32_13.pc tM32_13.hp = some oM32_13 := by kernel_rfl
theorem mM32_17 : runX Try.prog (oS32 Try.prog) fM32 tM32_17.args tM32_17.pc tM32_17.hp = some oM32_17 := by kernel_rfl
theorem mM32_21 : runX Try.prog (oS32 Try.prog) fM32 tM32_21.args tM32_21.pc tM32_21.hp = some oM32_21 := by kernel_rfl
theorem mM32_25 : runX Try.prog (oS32 Try.prog) fM32 tM32_25.args tM32_25.pc tM32_25.hp = some oM32_25 := by kernel_rfl
theorem mM32_29 : runX Try.prog (oS32 Try.prog) fM32 tM32_29.args tM32_29.pc tM32_29.hp = some oM32_29 := by kernel_rfl
theorem mM32_33 : runX Try.prog (oS32 Try.prog) fM32 tM32_33.args tM32_33.pc tM32_33.hp = some oM32_33 := by kernel_rfl
end Go.Proofs.Ytlmenjenkpnacaa
end
