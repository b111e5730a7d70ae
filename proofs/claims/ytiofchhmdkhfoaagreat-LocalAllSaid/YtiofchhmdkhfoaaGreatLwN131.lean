/- Those calls, one by one. (Printed by memo.py.) -/
import Derived.Test.YtiofchhmdkhfoaaGreatLwXA
import Derived.Test.YtiofchhmdkhfoaaGreatLwXN
set_option linter.unusedVariables false
set_option linter.unusedSimpArgs false

section
namespace Go.Proofs.YtiofchhmdkhfoaaGreat
open Go Go.Sy Go.RowKit

theorem mN13_0_0 : runX Tryz.prog (oM13 Tryz.prog) fN13 tN13_0_0.args tN13_0_0.pc tN13_0_0.hp = some oN13_0_0 := by kernel_rfl
theorem mN13_6_0 : runX Tryz.prog (oM13 Tryz.prog) fN13 tN13_6_0.args tN13_6_0.pc tN13_6_0.hp = some oN13_6_0 := by kernel_rfl
end Go.Proofs.YtiofchhmdkhfoaaGreat
end

section
namespace Go.Proofs.YtiofchhmdkhfoaaGreat
open Go Go.Sy Go.RowKit

theorem mN13_0_1 : runX Tryz.prog (oM13 Tryz.prog) fN13 tN13_0_1.args tN13_0_1.pc tN13_0_1.hp = some oN13_0_1 := by kernel_rfl
theorem mN13_6_1 : runX Tryz.prog (oM13 Tryz.prog) fN13 tN13_6_1.args tN13_6_1.pc tN13_6_1.hp = some oN13_6_1 := by kernel_rfl
end Go.Proofs.YtiofchhmdkhfoaaGreat
end
