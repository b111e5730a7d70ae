/- Those regions, function by function. (Printed by tails.py.) -/
import Derived.Test.YtiofchhmdkhfoaaGreatLwXA
import Derived.Test.YtiofchhmdkhfoaaGreatLwTailLD
set_option linter.unusedVariables false
set_option linter.unusedSimpArgs false

section
namespace Go.Proofs.YtiofchhmdkhfoaaGreat
open Go Go.Sy Go.RowKit

theorem tl3 : chkF Tryz.prog [(15, 17)] 3 = true := by kernel_rfl
theorem tl25 : chkF Tryz.prog [(1, 5)] 25 = true := by kernel_rfl
theorem tl78 : chkF Tryz.prog [(5, 9), (8, 12)] 78 = true := by kernel_rfl
theorem tl94 : chkF Tryz.prog [(0, 11), (3, 20)] 94 = true := by kernel_rfl
theorem tl98 : chkF Tryz.prog [(1, 8), (3, 15)] 98 = true := by kernel_rfl
theorem tl114 : chkF Tryz.prog [(1, 13)] 114 = true := by kernel_rfl
theorem tl120 : chkF Tryz.prog [(2, 18)] 120 = true := by kernel_rfl
theorem to3 : chkO Tryz.prog [(15, (.first 0 (.first 1 (.first 2 (.first 3 (.first 4 (.first 5 (.first 6 (.first 7 (.first 8 (.alt 9 (.alt 10 (.alt 11 (.alt 12 (.first 13 (.first 14 (.first 15 (.first 16 (.first 17 .done))))) .stop) .stop) .stop) .stop)))))))))))] 3 = true := by kernel_rfl
theorem to25 : chkO Tryz.prog [(1, (.first 0 (.first 1 (.first 2 (.first 4 (.alt 3 (.alt 5 .done .stop) .stop))))))] 25 = true := by kernel_rfl
theorem to78 : chkO Tryz.prog [(5, (.first 0 (.first 2 (.first 3 (.first 4 (.first 5 (.alt 1 (.alt 6 (.alt 7 (.alt 8 (.first 9 .done) .stop) .stop) .stop) (.alt 6 (.alt 1 (.alt 7 (.alt 8 (.first 9 .done) .stop) .stop) (.alt 7 (.alt 1 (.alt 8 (.first 9 .done) .stop) .stop) .stop)) .stop)))))))), (8, (.first 0 (.first 1 (.first 2 (.first 5 (.first 6 (.first 7 (.alt 3 (.first 4 (.first 11 (.alt 8 (.alt 9 (.first 10 (.first 12 .done)) .stop) .stop))) (.alt 8 (.alt 3 (.first 4 (.first 11 (.alt 9 (.first 10 (.first 12 .done)) .stop))) (.alt 9 (.first 10 (.alt 3 (.first 4 (.first 11 (.first 12 .done))) .stop)) .stop)) .stop)))))))))] 78 = true := by kernel_rfl
theorem to93 : chkO Tryz.prog [(0, (.first 0 (.first 1 (.first 2 (.first 3 (.first 4 (.first 5 (.first 6 (.first 7 (.first 9 (.first 10 (.alt 8 (.alt 11 .done .stop) .stop))))))))))))] 93 = true := by kernel_rfl
theorem to97 : chkO Tryz.prog [(3, (.first 0 (.first 1 (.first 2 (.first 3 (.first 4 (.first 5 (.first 6 (.first 7 (.alt 8 (.alt 9 .done .stop) .stop))))))))))] 97 = true := by kernel_rfl
theorem to109 : chkO Tryz.prog [(0, (.first 0 (.first 1 (.first 3 (.first 4 (.alt 2 (.alt 5 (.alt 6 (.alt 7 (.first 8 (.alt 9 .done .stop)) .stop) .stop) .stop) (.alt 5 (.alt 2 (.alt 6 (.alt 7 (.first 8 (.alt 9 .done .stop)) .stop) .stop) (.alt 6 (.alt 2 (.alt 7 (.first 8 (.alt 9 .done .stop)) .stop) (.alt 7 (.first 8 (.alt 2 (.alt 9 .done .stop) .stop)) .stop)) .stop)) .stop)))))))] 109 = true := by kernel_rfl
theorem to118 : chkO Tryz.prog [(3, (.first 0 (.first 1 (.first 2 (.first 3 (.first 4 (.first 5 (.first 6 (.first 7 (.first 8 (.first 9 (.first 11 (.first 12 (.first 13 (.first 14 (.first 15 (.first 16 (.alt 10 (.alt 17 (.first 18 .done) .stop) .stop)))))))))))))))))), (4, (.first 0 (.first 1 (.first 2 (.first 3 (.first 4 (.first 5 (.first 6 (.first 7 (.first 8 (.first 9 (.first 10 (.first 11 (.first 12 (.first 13 (.first 14 (.first 16 (.first 17 (.first 18 (.first 19 (.first 21 (.first 22 (.alt 15 (.alt 20 (.alt 23 .done .stop) .stop) .stop))))))))))))))))))))))), (2, (.first 0 (.first 1 (.first 2 (.first 3 (.first 4 (.first 5 (.first 6 (.first 7 (.first 8 (.first 9 (.first 10 (.first 11 (.first 12 (.first 13 (.first 14 (.first 15 (.first 16 (.first 17 (.first 18 (.first 19 (.first 20 (.first 22 (.first 23 (.first 24 (.first 25 (.first 26 (.first 27 (.first 30 (.first 31 (.alt 21 (.alt 28 (.alt 29 (.alt 32 .done .stop) .stop) .stop) (.alt 28 (.alt 21 (.alt 29 (.alt 32 .done .stop) .stop) .stop) .stop))))))))))))))))))))))))))))))))] 118 = true := by kernel_rfl
theorem to123 : chkO Tryz.prog [(2, (.first 0 (.first 1 (.first 2 (.first 3 (.first 4 (.first 5 (.first 6 (.first 7 (.first 8 (.first 9 (.first 10 (.first 11 (.first 12 (.first 13 (.first 14 (.first 16 (.first 17 (.alt 15 (.alt 18 .done .stop) .stop)))))))))))))))))))] 123 = true := by kernel_rfl
end Go.Proofs.YtiofchhmdkhfoaaGreat
end
