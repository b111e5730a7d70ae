/- Those calls, one by one. (Printed by memo.py.) -/
import Derived.Test.YtlmenjenkpnacaaLwXA
import Derived.Test.YtlmenjenkpnacaaLwXN
set_option linter.unusedVariables false
set_option linter.unusedSimpArgs false

section
namespace Go.Proofs.Ytlmenjenkpnacaa
open Go Go.Sy Go.RowKit

theorem mN32_10 : runX Try.prog (oM32 Try.prog) fN32 tN32_10.args tN32_10.pc tN32_10.hp = some oN32_10 := by kernel_rfl
theorem mN32_27 : runX Try.prog (oM32 Try.prog) fN32 tN32_27.args tN32_27.pc tN32_27.hp = some oN32_27 := by kernel_rfl
end Go.Proofs.Ytlmenjenkpnacaa
end

section
namespace Go.Proofs.Ytlmenjenkpnacaa
open Go Go.Sy Go.RowKit

theorem mN32_12 : runX Try.prog (oM32 Try.prog) fN32 tN32_12.args tN32_12.pc tN32_12.hp = some oN32_12 := by kernel_rfl
theorem mN32_32 : runX Try.prog (oM32 Try.prog) fN32 tN32_32.args tN32_32.pc tN32_32.hp = some oN32_32 := by kernel_rfl
end Go.Proofs.Ytlmenjenkpnacaa
end
