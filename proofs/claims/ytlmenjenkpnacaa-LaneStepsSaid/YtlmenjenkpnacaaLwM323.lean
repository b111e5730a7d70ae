/- Those calls, one by one. (Printed by memo.py.) -/
import Derived.Test.YtlmenjenkpnacaaLwXA
import Derived.Test.YtlmenjenkpnacaaLwXM
set_option linter.unusedVariables false
set_option linter.unusedSimpArgs false

section
namespace Go.Proofs.Ytlmenjenkpnacaa
open Go Go.Sy Go.RowKit

theorem mM32_2 : runX Try.prog (oS32 Try.prog) fM32 tM32_2.args tM32_2.pc tM32_2.hp = some oM32_2 := by kernel_rfl
theorem mM32_6 : runX Try.prog (oS32 Try.prog) fM32 tM32_6.args tM32_6.pc tM32_6.hp = some oM32_6 := by kernel_rfl
theorem mM32_10 : runX Try.prog (oS32 Try.prog) fM32 tM32_10.args tM32_10.pc tM32_10.hp = some oM32_10 := by kernel_rfl
theorem mM32_14 : runX Try.prog (oS32 Try.prog) fM32 tM32_14.args tM32_14.pc tM32_14.hp = some oM32_14 := by kernel_rfl
theorem mM32_18 : runX Try.prog (oS32 Try.prog) fM32 tM32_18.args tM32_18.pc tM32_18.hp = some oM32_18 := by kernel_rfl
theorem mM32_22 : runX Try.prog (oS32 Try.prog) fM32 tM32_22.args tM32_22.pc tM32_22.hp = some oM32_22 := by kernel_rfl
theorem mM32_26 : runX Try.prog (oS32 Try.prog) fM32 tM32_26.args tM32_26.pc tM32_26.hp = some oM32_26 := by kernel_rfl
theorem mM32_30 : runX Try.prog (oS32 Try.prog) fM32 tM32_30.args tM32_30.pc tM32_30.hp = some oM32_30 := by kernel_rfl
theorem mM32_34 : runX Try.prog (oS32 Try.prog) fM32 tM32_34.args tM32_34.pc tM32_34.hp = some oM32_34 := by kernel_rfl
end Go.Proofs.Ytlmenjenkpnacaa
end
