/- Those regions, function by function. (Printed by tails.py.) -/
import Derived.Test.YtlmenjenkpnacaaLwXA
import Derived.Test.YtlmenjenkpnacaaLwTailD
set_option linter.unusedVariables false
set_option linter.unusedSimpArgs false

section
namespace Go.Proofs.Ytlmenjenkpnacaa
open Go Go.Sy Go.RowKit

theorem tl5 : chkF Try.prog [(5, 34)] 5 = true := by kernel_rfl
theorem tl10 : chkF Try.prog [(5, 6), (7, 39)] 10 = true := by kernel_rfl
theorem tl14 : chkF Try.prog [(12, 19)] 14 = true := by kernel_rfl
theorem tl26 : chkF Try.prog [(11, 9)] 26 = true := by kernel_rfl
theorem tl39 : chkF Try.prog [(5, 12)] 39 = true := by kernel_rfl
theorem tl57 : chkF Try.prog [(9, 11)] 57 = true := by kernel_rfl
theorem tl70 : chkF Try.prog [(5, 8)] 70 = true := by kernel_rfl
theorem tl91 : chkF Try.prog [(1, 20)] 91 = true := by kernel_rfl
theorem tl103 : chkF Try.prog [(1, 21)] 103 = true := by kernel_rfl
theorem tl119 : chkF Try.prog [(1, 15)] 119 = true := by kernel_rfl
theorem tl135 : chkF Try.prog [(1, 12)] 135 = true := by kernel_rfl
theorem tl152 : chkF Try.prog [(1, 13)] 152 = true := by kernel_rfl
theorem tl162 : chkF Try.prog [(6, 8), (9, 8)] 162 = true := by kernel_rfl
theorem tl169 : chkF Try.prog [(3, 18), (4, 23), (2, 32)] 169 = true := by kernel_rfl
theorem tl184 : chkF Try.prog [(1, 7)] 184 = true := by kernel_rfl
theorem tl189 : chkF Try.prog [(1, 15)] 189 = true := by kernel_rfl
theorem tl194 : chkF Try.prog [(2, 18)] 194 = true := by kernel_rfl
theorem tl202 : chkF Try.prog [(2, 9)] 202 = true := by kernel_rfl
theorem tl210 : chkF Try.prog [(2, 18)] 210 = true := by kernel_rfl
theorem tl214 : chkF Try.prog [(4, 23)] 214 = true := by kernel_rfl
theorem to8 : chkO Try.prog [(5, [0, 2, 3, 4, 5, 1, 6, 7])] 8 = true := by kernel_rfl
theorem to12 : chkO Try.prog [(51, [0, 1, 4, 5, 2, 3, 6])] 12 = true := by kernel_rfl
theorem to78 : chkO Try.prog [(3, [0, 1, 2, 3, 4, 5, 6, 7, 8, 9, 10, 11])] 78 = true := by kernel_rfl
theorem to100 : chkO Try.prog [(0, [0, 1, 2, 3, 4, 5, 6, 7, 8, 10, 11, 9, 12])] 100 = true := by kernel_rfl
theorem to112 : chkO Try.prog [(1, [0, 1, 2, 3, 4, 5, 6, 7, 9, 10, 8, 11])] 112 = true := by kernel_rfl
theorem to130 : chkO Try.prog [(1, [0, 1, 2, 3, 4, 5, 6, 7, 8, 9, 11, 12, 10, 13])] 130 = true := by kernel_rfl
theorem to148 : chkO Try.prog [(0, [0, 1, 2, 3, 4, 5, 6, 7, 8, 9, 10, 11, 12, 13, 14, 15, 16, 17, 18, 19, 20, 24, 25, 21, 22, 23, 26])] 148 = true := by kernel_rfl
theorem to161 : chkO Try.prog [(5, [0, 1, 2, 3, 4, 5, 6, 7, 9, 10, 11, 12, 8, 13])] 161 = true := by kernel_rfl
theorem to166 : chkO Try.prog [(2, [0, 1, 2, 3, 4, 5, 6, 7, 8, 9, 10, 11, 14, 15, 12, 13, 16])] 166 = true := by kernel_rfl
theorem to181 : chkO Try.prog [(2, [0, 1, 2, 3, 4, 5, 6, 7, 8, 9, 10, 11])] 181 = true := by kernel_rfl
theorem to188 : chkO Try.prog [(2, [0, 1, 2, 3, 4, 5, 6, 7, 8, 9, 10, 11, 14, 15, 12, 13, 16]), (3, [0, 1, 2, 3, 4, 5, 6, 7, 8, 9, 10, 11, 14, 15, 12, 13, 16])] 188 = true := by kernel_rfl
theorem to193 : chkO Try.prog [(2, [0, 1, 2, 3, 4, 5, 6, 7, 8, 9, 10, 11, 12, 13, 14, 16, 17, 15, 18])] 193 = true := by kernel_rfl
theorem to200 : chkO Try.prog [(1, [0, 1, 2, 3, 4, 5, 6, 7, 8, 9]), (3, [0, 1, 2, 3, 4, 5, 6, 7, 8, 9, 10, 11, 13, 14, 12, 15])] 200 = true := by kernel_rfl
theorem to209 : chkO Try.prog [(2, [0, 1, 2, 3, 4, 5, 6, 7, 8, 9]), (3, [0, 1, 2, 3, 4, 5, 6, 7, 8, 9, 10, 11, 14, 15, 12, 13, 16])] 209 = true := by kernel_rfl
theorem to213 : chkO Try.prog [(0, [0, 1, 2, 3, 4, 5, 6, 7, 8, 9, 10, 11, 13, 16, 17, 12, 14, 15, 18])] 213 = true := by kernel_rfl
end Go.Proofs.Ytlmenjenkpnacaa
end
