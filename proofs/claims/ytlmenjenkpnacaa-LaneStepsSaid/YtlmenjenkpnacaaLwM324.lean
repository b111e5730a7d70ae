/- Those calls, one by one. (Printed by memo.py.) -/
import Derived.Test.YtlmenjenkpnacaaLwXA
import Derived.Test.YtlmenjenkpnacaaLwXM
set_option linter.unusedVariables false
set_option linter.unusedSimpArgs false

section
namespace Go.Proofs.Ytlmenjenkpnacaa
open Go Go.Sy Go.RowKit

theorem mM32_3 : runX Try.prog (oS32 Try.prog) fM32 tM32_3.args tM32_3.pc tM32_3.hp = some oM32_3 := by kernel_rfl
theorem mM32_7 : runX Try.prog (oS32 Try.prog) fM32 tM32_7.args tM32_7.pc tM32_7.hp = some oM32_7 := by kernel_rfl
theorem mM32_11 : runX Try.prog (oS32 Try.prog) fM32 tM32_11.args tM32_11.pc tM32_11.hp = some oM32_11 := by kernel_rfl
theorem mM32_15 : runX Try.prog (oS32 Try.prog) fM32 tM32_15.args tM32_15.pc tM32_15.hp = some oM32_15 := by kernel_rfl
theorem mM32_19 : runX Try.prog (oS32 Try.prog) fM32 tM32_19.args tM32_19.pc tM32_19.hp = some oM32_19 := by kernel_rfl
theorem mM32_23 : runX Try.prog (oS32 Try.prog) fM32 tM32_23.args tM32_23.pc tM32_23.hp = some oM32_23 := by kernel_rfl
theorem mM32_27 : runX Try.prog (oS32 Try.prog) fM32 tM32_27.args tM32_27.pc tM32_27.hp = some oM32_27 := by kernel_rfl
theorem mM32_31 : runX Try.prog (oS32 Try.prog) fM32 tM32_31.args tM32_31.pc tM32_31.hp = some oM32_31 := by kernel_rfl
end Go.Proofs.Ytlmenjenkpnacaa
end
