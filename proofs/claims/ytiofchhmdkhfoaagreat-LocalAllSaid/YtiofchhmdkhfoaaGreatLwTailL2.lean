/- Those regions, function by function. (Printed by tails.py.) -/
import Derived.Test.YtiofchhmdkhfoaaGreatLwXA
import Derived.Test.YtiofchhmdkhfoaaGreatLwTailLD
set_option linter.unusedVariables false
set_option linter.unusedSimpArgs false

section
namespace Go.Proofs.YtiofchhmdkhfoaaGreat
open Go Go.Sy Go.RowKit

theorem tl4 : chkF Tryz.prog [(8, 7), (15, 15)] 4 = true := by kernel_rfl
theorem tl28 : chkF Tryz.prog [(1, 6)] 28 = true := by kernel_rfl
theorem tl87 : chkF Tryz.prog [(1, 15)] 87 = true := by kernel_rfl
theorem tl95 : chkF Tryz.prog [(2, 16), (3, 16)] 95 = true := by kernel_rfl
theorem tl101 : chkF Tryz.prog [(3, 16)] 101 = true := by kernel_rfl
theorem tl117 : chkF Tryz.prog [(0, 7), (5, 25)] 117 = true := by kernel_rfl
theorem tl121 : chkF Tryz.prog [(0, 19)] 121 = true := by kernel_rfl
theorem to4 : chkO Tryz.prog [(8, (.first 0 (.first 2 (.first 4 (.first 6 (.alt 1 (.alt 3 (.alt 5 (.alt 7 (.alt 8 (.first 9 .done) .stop) .stop) .stop) .stop) .stop)))))), (15, (.first 0 (.first 1 (.first 2 (.first 3 (.first 4 (.alt 5 (.alt 6 (.first 7 (.first 8 (.first 9 (.first 10 (.first 11 (.alt 12 (.first 13 (.alt 14 (.alt 15 .done .stop) .stop)) .stop)))))) .stop) .stop)))))))] 4 = true := by kernel_rfl
theorem to28 : chkO Tryz.prog [(1, (.first 0 (.first 1 (.first 2 (.first 5 (.alt 3 (.alt 4 (.alt 6 .done .stop) .stop) .stop))))))] 28 = true := by kernel_rfl
theorem to85 : chkO Tryz.prog [(0, (.first 0 (.first 1 (.first 3 (.first 4 (.alt 2 (.alt 5 (.alt 6 (.first 7 (.alt 8 .done .stop)) .stop) .stop) (.alt 5 (.alt 2 (.alt 6 (.first 7 (.alt 8 .done .stop)) .stop) (.alt 6 (.first 7 (.alt 2 (.alt 8 .done .stop) .stop)) .stop)) .stop)))))))] 85 = true := by kernel_rfl
theorem to94 : chkO Tryz.prog [(0, (.first 0 (.first 1 (.first 2 (.first 3 (.first 4 (.first 6 (.first 7 (.first 8 (.first 9 (.first 10 (.alt 5 (.alt 11 .done .stop) .stop)))))))))))), (3, (.first 0 (.first 1 (.first 2 (.first 3 (.first 4 (.first 5 (.first 6 (.first 7 (.first 8 (.first 9 (.first 10 (.first 11 (.first 13 (.first 14 (.first 15 (.first 16 (.first 18 (.first 19 (.alt 12 (.alt 17 (.alt 20 .done .stop) .stop) .stop))))))))))))))))))))] 94 = true := by kernel_rfl
theorem to98 : chkO Tryz.prog [(1, (.first 0 (.first 1 (.first 2 (.first 3 (.first 4 (.first 5 (.first 6 (.first 7 (.alt 8 (.alt 9 .done .stop) .stop)))))))))), (3, (.first 0 (.first 1 (.first 2 (.first 3 (.first 4 (.first 5 (.first 6 (.first 7 (.first 8 (.first 9 (.first 10 (.first 11 (.first 13 (.first 14 (.alt 12 (.alt 15 .done .stop) .stop))))))))))))))))] 98 = true := by kernel_rfl
theorem to111 : chkO Tryz.prog [(1, (.first 0 (.first 1 (.first 2 (.first 3 (.first 4 (.first 5 (.first 6 (.first 7 (.first 8 (.first 9 (.first 11 (.first 12 (.alt 10 (.alt 13 .done .stop) .stop))))))))))))))] 111 = true := by kernel_rfl
theorem to119 : chkO Tryz.prog [(1, (.first 0 (.first 1 (.first 2 (.first 3 (.first 4 (.alt 5 (.alt 6 (.alt 7 .done .stop) .stop) .stop)))))))] 119 = true := by kernel_rfl
theorem to129 : chkO Tryz.prog [(3, (.first 0 (.first 1 (.first 2 (.first 3 (.first 4 (.first 5 (.first 6 (.first 7 (.first 8 (.first 9 (.first 10 (.first 11 (.first 12 (.first 13 (.first 14 (.first 15 (.first 19 (.first 20 (.alt 16 (.alt 17 (.alt 18 (.alt 21 .done .stop) .stop) .stop) .stop)))))))))))))))))))), (4, (.first 0 (.first 1 (.first 2 (.first 3 (.first 4 (.first 5 (.first 6 (.first 7 (.alt 8 (.alt 9 (.alt 10 .done .stop) .stop) .stop))))))))))] 129 = true := by kernel_rfl
end Go.Proofs.YtiofchhmdkhfoaaGreat
end
