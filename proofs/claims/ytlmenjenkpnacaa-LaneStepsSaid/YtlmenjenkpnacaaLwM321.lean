/- Those calls, one by one. (Printed by memo.py.) -/
import Derived.Test.YtlmenjenkpnacaaLwXA
import Derived.Test.YtlmenjenkpnacaaLwXM
set_option linter.unusedVariables false
set_option linter.unusedSimpArgs false

section
namespace Go.Proofs.Ytlmenjenkpnacaa
open Go Go.Sy Go.RowKit

theorem mM32_0 : runX Try.prog (oS32 Try.prog) fM32 tM32_0.args tM32_0.pc tM32_0.hp = some oM32_0 := by kernel_rfl
theorem mM32_4 : runX Try.prog (oS32 Try.prog) fM32 tM32_4.args tM32_4.pc tM32_4.hp = some oM32_4 := by kernel_rfl
theorem mM32_8 : runX Try.prog (oS32 Try.prog) fM32 tM32_8.args tM32_8.pc tM32_8.hp = some oM32_8 := by kernel_rfl
theorem mM32_12 : runX Try.prog (oS32 Try.prog) fM32 tM32_12.args tM32_12.pc tM32_12.hp = some oM32_12 := by kernel_rfl
theorem mM32_16 : runX Try.prog (oS32 Try.prog) fM32 tM32_16.args tM32_16.pc tM32_16.hp = some oM32_16 := by kernel_rfl
theorem mM32_20 : runX Try.prog (oS32 Try.prog) fM32 tM32_20.args tM32_20.pc tM32_20.hp = some oM32_20 := by kernel_rfl
theorem mM32_24 : runX Try.prog (oS32 Try.prog) fM32 tM32_24.args tM32_24.pc tM32_24.hp = some oM32_24 := by kernel_rfl
theorem mM32_28 : runX Try.prog (oS32 Try.prog) fM32 tM32_28.args tM32_28.pc tM32_28.hp = some oM32_28 := by kernel_rfl
theorem mM32_32 : runX Try.prog (oS32 Try.prog) fM32 tM32_32.args tM32_32.pc tM32_32.hp = some oM32_32 := by kernel_rfl
end Go.Proofs.Ytlmenjenkpnacaa
end
