/- Those regions, function by function. (Printed by tails.py.) -/
import Derived.Test.YtiofchhmdkhfoaaGreatLwXA
import Derived.Test.YtiofchhmdkhfoaaGreatLwTailLD
set_option linter.unusedVariables false
set_option linter.unusedSimpArgs false

section
namespace Go.Proofs.YtiofchhmdkhfoaaGreat
open Go Go.Sy Go.RowKit

theorem tl20 : chkF Tryz.prog [(1, 6)] 20 = true := by kernel_rfl
theorem tl48 : chkF Tryz.prog [(6, 13), (8, 8), (10, 8)] 48 = true := by kernel_rfl
theorem tl93 : chkF Tryz.prog [(0, 11)] 93 = true := by kernel_rfl
theorem tl97 : chkF Tryz.prog [(3, 9)] 97 = true := by kernel_rfl
theorem tl111 : chkF Tryz.prog [(1, 13)] 111 = true := by kernel_rfl
theorem tl119 : chkF Tryz.prog [(1, 7)] 119 = true := by kernel_rfl
theorem tl129 : chkF Tryz.prog [(3, 21), (4, 10)] 129 = true := by kernel_rfl
theorem to20 : chkO Tryz.prog [(1, (.first 0 (.first 3 (.alt 1 (.first 2 (.alt 4 (.first 5 (.alt 6 (.first 7 .done) .stop)) .stop)) (.alt 4 (.first 5 (.alt 1 (.first 2 (.alt 6 (.first 7 .done) .stop)) .stop)) .stop)))))] 20 = true := by kernel_rfl
theorem to48 : chkO Tryz.prog [(6, (.first 0 (.first 1 (.alt 2 (.first 3 (.first 4 (.first 5 (.first 6 (.first 7 (.first 8 (.first 9 (.alt 10 (.alt 11 (.alt 12 (.first 13 .done) .stop) .stop) .stop)))))))) .stop)))), (8, (.first 0 (.first 1 (.first 2 (.first 3 (.first 4 (.first 5 (.alt 6 (.first 7 (.first 8 .done)) .stop)))))))), (10, (.first 0 (.first 1 (.first 2 (.first 3 (.first 4 (.first 5 (.first 6 (.alt 7 (.alt 8 .done .stop) .stop)))))))))] 48 = true := by kernel_rfl
theorem to90 : chkO Tryz.prog [(1, (.first 0 (.first 1 (.first 2 (.first 3 (.first 4 (.first 5 (.first 6 (.first 7 (.first 9 (.first 10 (.alt 8 (.alt 11 .done .stop) .stop))))))))))))] 90 = true := by kernel_rfl
theorem to96 : chkO Tryz.prog [(0, (.first 0 (.first 1 (.first 2 (.first 3 (.first 4 (.first 5 (.first 6 (.first 7 (.first 8 (.first 9 (.first 10 (.first 11 (.first 14 (.first 15 (.alt 12 (.alt 13 (.alt 16 .done .stop) .stop) .stop))))))))))))))))] 96 = true := by kernel_rfl
theorem to102 : chkO Tryz.prog [(5, (.first 0 (.first 2 (.first 3 (.first 4 (.first 5 (.alt 1 (.alt 6 (.alt 7 (.alt 8 (.first 9 .done) .stop) .stop) .stop) (.alt 6 (.alt 1 (.alt 7 (.alt 8 (.first 9 .done) .stop) .stop) (.alt 7 (.alt 1 (.alt 8 (.first 9 .done) .stop) .stop) .stop)) .stop)))))))), (8, (.first 0 (.first 1 (.first 2 (.first 6 (.first 7 (.first 8 (.alt 3 (.first 4 (.alt 5 (.alt 9 (.alt 10 (.first 11 (.alt 12 (.first 13 (.first 14 .done)) .stop)) .stop) .stop) (.alt 9 (.alt 5 (.alt 10 (.first 11 (.alt 12 (.first 13 (.first 14 .done)) .stop)) .stop) (.alt 10 (.first 11 (.alt 5 (.alt 12 (.first 13 (.first 14 .done)) .stop) .stop)) .stop)) .stop))) (.alt 9 (.alt 3 (.first 4 (.alt 5 (.alt 10 (.first 11 (.alt 12 (.first 13 (.first 14 .done)) .stop)) .stop) (.alt 10 (.first 11 (.alt 5 (.alt 12 (.first 13 (.first 14 .done)) .stop) .stop)) .stop))) (.alt 10 (.first 11 (.alt 3 (.first 4 (.alt 5 (.alt 12 (.first 13 (.first 14 .done)) .stop) .stop)) .stop)) .stop)) .stop)))))))))] 102 = true := by kernel_rfl
theorem to117 : chkO Tryz.prog [(0, (.first 0 (.first 2 (.first 3 (.first 4 (.first 5 (.first 6 (.alt 1 (.alt 7 (.alt 8 .done .stop) .stop) .stop)))))))), (5, (.first 0 (.first 1 (.first 2 (.first 3 (.first 4 (.first 5 (.first 6 (.first 7 (.first 8 (.first 9 (.first 10 (.first 11 (.first 12 (.first 13 (.first 14 (.first 15 (.first 16 (.first 17 (.first 18 (.first 19 (.first 20 (.first 23 (.first 24 (.alt 21 (.alt 22 (.alt 25 .done .stop) .stop) .stop)))))))))))))))))))))))))] 117 = true := by kernel_rfl
theorem to121 : chkO Tryz.prog [(0, (.first 0 (.first 1 (.first 2 (.first 3 (.first 4 (.first 5 (.first 6 (.first 7 (.first 8 (.first 9 (.first 10 (.first 11 (.first 12 (.first 13 (.first 14 (.first 17 (.first 18 (.alt 15 (.alt 16 (.alt 19 .done .stop) .stop) .stop)))))))))))))))))))] 121 = true := by kernel_rfl
end Go.Proofs.YtiofchhmdkhfoaaGreat
end
