/- Those calls, one by one. (Printed by memo.py.) -/
import Derived.Test.YtlmenjenkpnacaaLwXA
import Derived.Test.YtlmenjenkpnacaaLwXN
set_option linter.unusedVariables false
set_option linter.unusedSimpArgs false

section
namespace Go.Proofs.Ytlmenjenkpnacaa
open Go Go.Sy Go.RowKit

theorem mN32_0 : runX Try.prog (oM32 Try.prog) fN32 tN32_0.args tN32_0.pc tN32_0.hp = some oN32_0 := by kernel_rfl
theorem mN32_17 : runX Try.prog (oM32 Try.prog) fN32 tN32_17.args tN32_17.pc tN32_17.hp = some oN32_17 := by kernel_rfl
end Go.Proofs.Ytlmenjenkpnacaa
end

section
namespace Go.Proofs.Ytlmenjenkpnacaa
open Go Go.Sy Go.RowKit

theorem mN32_5 : runX Try.prog (oM32 Try.prog) fN32 tN32_5.args tN32_5.pc tN32_5.hp = some oN32_5 := by kernel_rfl
theorem mN32_22 : runX Try.prog (oM32 Try.prog) fN32 tN32_22.args tN32_22.pc tN32_22.hp = some oN32_22 := by kernel_rfl
end Go.Proofs.Ytlmenjenkpnacaa
end
