/- Those regions, function by function. (Printed by tails.py.) -/
import Derived.Test.YtlmenjenkpnacaaLwXA
import Derived.Test.YtlmenjenkpnacaaLwTailD
set_option linter.unusedVariables false
set_option linter.unusedSimpArgs false

section
namespace Go.Proofs.Ytlmenjenkpnacaa
open Go Go.Sy Go.RowKit

theorem tl9 : chkF Try.prog [(31, 5), (40, 9), (66, 26), (71, 36)] 9 = true := by kernel_rfl
theorem tl13 : chkF Try.prog [(17, 12)] 13 = true := by kernel_rfl
theorem tl24 : chkF Try.prog [(6, 8)] 24 = true := by kernel_rfl
theorem tl38 : chkF Try.prog [(6, 15), (15, 19)] 38 = true := by kernel_rfl
theorem tl52 : chkF Try.prog [(16, 18)] 52 = true := by kernel_rfl
theorem tl68 : chkF Try.prog [(5, 9), (8, 12)] 68 = true := by kernel_rfl
theorem tl86 : chkF Try.prog [(8, 12), (9, 16), (12, 16)] 86 = true := by kernel_rfl
theorem tl100 : chkF Try.prog [(0, 12)] 100 = true := by kernel_rfl
theorem tl114 : chkF Try.prog [(13, 14)] 114 = true := by kernel_rfl
theorem tl132 : chkF Try.prog [(1, 13)] 132 = true := by kernel_rfl
theorem tl151 : chkF Try.prog [(2, 31)] 151 = true := by kernel_rfl
theorem tl161 : chkF Try.prog [(5, 13)] 161 = true := by kernel_rfl
theorem tl166 : chkF Try.prog [(2, 16)] 166 = true := by kernel_rfl
theorem tl181 : chkF Try.prog [(2, 11)] 181 = true := by kernel_rfl
theorem tl188 : chkF Try.prog [(2, 16), (3, 16)] 188 = true := by kernel_rfl
theorem tl193 : chkF Try.prog [(2, 18)] 193 = true := by kernel_rfl
theorem tl200 : chkF Try.prog [(1, 8), (3, 15)] 200 = true := by kernel_rfl
theorem tl209 : chkF Try.prog [(3, 16)] 209 = true := by kernel_rfl
theorem tl213 : chkF Try.prog [(0, 18)] 213 = true := by kernel_rfl
theorem to11 : chkO Try.prog [(13, [0, 1, 2, 3, 4, 5, 6, 7])] 11 = true := by kernel_rfl
theorem to71 : chkO Try.prog [(8, [0, 1, 2, 3, 4, 5, 6, 7, 8]), (10, [0, 1, 2, 3, 4, 5, 6, 7, 8])] 71 = true := by kernel_rfl
theorem to99 : chkO Try.prog [(1, [0, 1, 2, 3, 4, 5, 6, 7, 8, 9, 10, 11, 12, 13, 14, 17, 18, 15, 16, 19])] 99 = true := by kernel_rfl
theorem to105 : chkO Try.prog [(3, [0, 1, 2, 3, 4, 5, 6, 7, 8, 9, 10, 11, 12, 13]), (17, [0, 1, 2, 3, 4, 5, 6, 7, 8, 9, 10, 11, 12, 13])] 105 = true := by kernel_rfl
theorem to121 : chkO Try.prog [(1, [0, 1, 2, 3, 4, 5, 6, 7, 9, 10, 8, 11])] 121 = true := by kernel_rfl
theorem to145 : chkO Try.prog [(0, [0, 1, 2, 3, 4, 5, 6, 7, 8, 9, 10, 11, 12, 13, 14, 15, 16, 17, 21, 22, 18, 19, 20, 23])] 145 = true := by kernel_rfl
theorem to158 : chkO Try.prog [(0, [0, 1, 2, 3, 4, 6, 7, 8, 9, 10, 5, 11]), (3, [0, 1, 2, 3, 4, 5, 6, 7, 8, 9, 10, 11, 13, 14, 15, 16, 18, 19, 12, 17, 20])] 158 = true := by kernel_rfl
theorem to165 : chkO Try.prog [(0, [0, 1, 2, 3, 4, 5, 6, 7, 9, 10, 8, 11])] 165 = true := by kernel_rfl
theorem to171 : chkO Try.prog [(3, [0, 1, 2, 3, 4, 5, 6, 7, 8, 9, 11, 12, 10, 13])] 171 = true := by kernel_rfl
theorem to187 : chkO Try.prog [(0, [0, 1, 2, 3, 4, 5, 6, 7, 8, 9, 10, 11, 14, 15, 12, 13, 16])] 187 = true := by kernel_rfl
theorem to192 : chkO Try.prog [(1, [0, 1, 2, 3, 4, 5, 6, 7])] 192 = true := by kernel_rfl
theorem to199 : chkO Try.prog [(3, [0, 1, 2, 3, 4, 5, 6, 7, 8, 9])] 199 = true := by kernel_rfl
theorem to208 : chkO Try.prog [(6, [0, 1, 2, 3, 4, 5, 6, 7, 8, 9, 11, 12, 10, 13]), (2, [0, 1, 2, 3, 4, 5, 6, 7, 8, 9, 10, 11, 12, 13, 14, 15, 16, 17, 18, 19, 20, 21, 22, 23, 24, 25, 26, 27, 28, 32, 33, 29, 30, 31, 34])] 208 = true := by kernel_rfl
theorem to212 : chkO Try.prog [(0, [0, 1, 2, 3, 4, 5, 6, 7, 8, 9, 10, 11, 12, 13, 14, 15, 16, 17, 18, 19, 24, 25, 20, 21, 22, 23, 26])] 212 = true := by kernel_rfl
end Go.Proofs.Ytlmenjenkpnacaa
end
