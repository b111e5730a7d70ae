/- Those calls, one by one. (Printed by memo.py.) -/
import Derived.Test.YtiofchhmdkhfoaaGreatLwXA
import Derived.Test.YtiofchhmdkhfoaaGreatLwXN
set_option linter.unusedVariables false
set_option linter.unusedSimpArgs false

section
namespace Go.Proofs.YtiofchhmdkhfoaaGreat
open Go Go.Sy Go.RowKit

theorem mN13_4_0 : runX Tryz.prog (oM13 Tryz.prog) fN13 tN13_4_0.args tN13_4_0.pc tN13_4_0.hp = some oN13_4_0 := by kernel_rfl
theorem mN13_10_0 : runX Tryz.prog (oM13 Tryz.prog) fN13 tN13_10_0.args tN13_10_0.pc tN13_10_0.hp = some oN13_10_0 := by kernel_rfl
end Go.Proofs.YtiofchhmdkhfoaaGreat
end

section
namespace Go.Proofs.YtiofchhmdkhfoaaGreat
open Go Go.Sy Go.RowKit

theorem mN13_4_1 : runX Tryz.prog (oM13 Tryz.prog) fN13 tN13_4_1.args tN13_4_1.pc tN13_4_1.hp = some oN13_4_1 := by kernel_rfl
theorem mN13_12_0 : runX Tryz.prog (oM13 Tryz.prog) fN13 tN13_12_0.args tN13_12_0.pc tN13_12_0.hp = some oN13_12_0 := by kernel_rfl
end Go.Proofs.YtiofchhmdkhfoaaGreat
end
