/- Those regions, function by function. (Printed by tails.py.) -/
import Derived.Test.YtiofchhmdkhfoaaGreatLwXA
import Derived.Test.YtiofchhmdkhfoaaGreatLwTailLD
set_option linter.unusedVariables false
set_option linter.unusedSimpArgs false

section
namespace Go.Proofs.YtiofchhmdkhfoaaGreat
open Go Go.Sy Go.RowKit

theorem tl10 : chkF Tryz.prog [(6, 8)] 10 = true := by kernel_rfl
theorem tl29 : chkF Tryz.prog [(0, 5)] 29 = true := by kernel_rfl
theorem tl90 : chkF Tryz.prog [(1, 11)] 90 = true := by kernel_rfl
theorem tl96 : chkF Tryz.prog [(0, 16)] 96 = true := by kernel_rfl
theorem tl102 : chkF Tryz.prog [(5, 9), (8, 12)] 102 = true := by kernel_rfl
theorem tl118 : chkF Tryz.prog [(3, 18), (4, 23), (2, 32)] 118 = true := by kernel_rfl
theorem tl123 : chkF Tryz.prog [(2, 18)] 123 = true := by kernel_rfl
theorem to10 : chkO Tryz.prog [(6, (.first 0 (.first 1 (.first 4 (.first 5 (.alt 2 (.first 3 (.alt 6 (.first 7 (.alt 8 .done .stop)) .stop)) (.alt 6 (.first 7 (.alt 2 (.first 3 (.alt 8 .done .stop)) .stop)) .stop)))))))] 10 = true := by kernel_rfl
theorem to29 : chkO Tryz.prog [(0, (.first 0 (.first 1 (.first 2 (.first 3 (.alt 4 (.alt 5 .done .stop) .stop))))))] 29 = true := by kernel_rfl
theorem to87 : chkO Tryz.prog [(1, (.first 0 (.first 1 (.first 2 (.first 3 (.first 4 (.first 5 (.first 6 (.first 7 (.first 8 (.first 9 (.first 10 (.first 11 (.first 13 (.first 14 (.alt 12 (.alt 15 .done .stop) .stop))))))))))))))))] 87 = true := by kernel_rfl
theorem to95 : chkO Tryz.prog [(2, (.first 0 (.first 1 (.first 2 (.first 3 (.first 4 (.first 5 (.first 6 (.first 7 (.first 8 (.first 9 (.first 10 (.first 11 (.first 14 (.first 15 (.alt 12 (.alt 13 (.alt 16 .done .stop) .stop) .stop)))))))))))))))), (3, (.first 0 (.first 1 (.first 2 (.first 3 (.first 4 (.first 5 (.first 6 (.first 7 (.first 8 (.first 9 (.first 10 (.first 11 (.first 14 (.first 15 (.alt 12 (.alt 13 (.alt 16 .done .stop) .stop) .stop))))))))))))))))] 95 = true := by kernel_rfl
theorem to101 : chkO Tryz.prog [(2, (.first 0 (.first 1 (.first 2 (.first 3 (.first 4 (.first 5 (.first 6 (.first 7 (.alt 8 (.alt 9 .done .stop) .stop)))))))))), (3, (.first 0 (.first 1 (.first 2 (.first 3 (.first 4 (.first 5 (.first 6 (.first 7 (.first 8 (.first 9 (.first 10 (.first 11 (.first 14 (.first 15 (.alt 12 (.alt 13 (.alt 16 .done .stop) .stop) .stop))))))))))))))))] 101 = true := by kernel_rfl
theorem to114 : chkO Tryz.prog [(1, (.first 0 (.first 1 (.first 2 (.first 3 (.first 4 (.first 5 (.first 6 (.first 7 (.first 8 (.first 9 (.first 11 (.first 12 (.alt 10 (.alt 13 .done .stop) .stop))))))))))))))] 114 = true := by kernel_rfl
theorem to120 : chkO Tryz.prog [(2, (.first 0 (.first 1 (.first 2 (.first 3 (.first 4 (.first 5 (.first 6 (.first 7 (.first 8 (.first 9 (.first 10 (.first 11 (.first 12 (.first 13 (.first 14 (.first 16 (.first 17 (.alt 15 (.alt 18 .done .stop) .stop)))))))))))))))))))] 120 = true := by kernel_rfl
end Go.Proofs.YtiofchhmdkhfoaaGreat
end
