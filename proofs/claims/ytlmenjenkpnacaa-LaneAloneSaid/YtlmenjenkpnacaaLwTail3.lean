/- Those regions, function by function. (Printed by tails.py.) -/
import Derived.Test.YtlmenjenkpnacaaLwXA
import Derived.Test.YtlmenjenkpnacaaLwTailD
set_option linter.unusedVariables false
set_option linter.unusedSimpArgs false

section
namespace Go.Proofs.Ytlmenjenkpnacaa
open Go Go.Sy Go.RowKit

theorem tl8 : chkF Try.prog [(5, 6), (7, 24)] 8 = true := by kernel_rfl
theorem tl12 : chkF Try.prog [(51, 6)] 12 = true := by kernel_rfl
theorem tl22 : chkF Try.prog [(4, 11)] 22 = true := by kernel_rfl
theorem tl35 : chkF Try.prog [(9, 11)] 35 = true := by kernel_rfl
theorem tl50 : chkF Try.prog [(9, 11)] 50 = true := by kernel_rfl
theorem tl67 : chkF Try.prog [(3, 7)] 67 = true := by kernel_rfl
theorem tl84 : chkF Try.prog [(2, 15)] 84 = true := by kernel_rfl
theorem tl99 : chkF Try.prog [(1, 19)] 99 = true := by kernel_rfl
theorem tl112 : chkF Try.prog [(1, 11)] 112 = true := by kernel_rfl
theorem tl130 : chkF Try.prog [(1, 13)] 130 = true := by kernel_rfl
theorem tl148 : chkF Try.prog [(0, 26)] 148 = true := by kernel_rfl
theorem tl158 : chkF Try.prog [(0, 11), (3, 20)] 158 = true := by kernel_rfl
theorem tl165 : chkF Try.prog [(0, 11)] 165 = true := by kernel_rfl
theorem tl171 : chkF Try.prog [(1, 13), (3, 13)] 171 = true := by kernel_rfl
theorem tl187 : chkF Try.prog [(0, 16)] 187 = true := by kernel_rfl
theorem tl192 : chkF Try.prog [(1, 7)] 192 = true := by kernel_rfl
theorem tl199 : chkF Try.prog [(3, 9)] 199 = true := by kernel_rfl
theorem tl208 : chkF Try.prog [(6, 13), (2, 34)] 208 = true := by kernel_rfl
theorem tl212 : chkF Try.prog [(0, 26)] 212 = true := by kernel_rfl
theorem to10 : chkO Try.prog [(5, [0, 2, 3, 4, 5, 1, 6, 7])] 10 = true := by kernel_rfl
theorem to38 : chkO Try.prog [(6, [0, 2, 4, 6, 8, 10, 12, 14, 1, 3, 5, 7, 9, 11, 13, 15, 16, 17])] 38 = true := by kernel_rfl
theorem to86 : chkO Try.prog [(9, [0, 1, 2, 3, 4, 5, 6, 7, 8, 9, 10, 11, 12, 13, 14, 15, 16, 17]), (12, [0, 1, 2, 3, 4, 5, 6, 7, 8, 9, 10, 11, 12, 13, 14, 15, 16, 17])] 86 = true := by kernel_rfl
theorem to103 : chkO Try.prog [(1, [0, 1, 2, 3, 4, 5, 6, 7, 8, 9, 10, 11, 12, 13, 14, 16, 17, 19, 20, 15, 18, 21])] 103 = true := by kernel_rfl
theorem to119 : chkO Try.prog [(1, [0, 1, 2, 3, 4, 5, 6, 7, 8, 9, 10, 11, 13, 14, 12, 15])] 119 = true := by kernel_rfl
theorem to135 : chkO Try.prog [(1, [0, 1, 2, 3, 4, 5, 6, 7, 8, 10, 11, 9, 12])] 135 = true := by kernel_rfl
theorem to152 : chkO Try.prog [(1, [0, 1, 2, 3, 4, 5, 6, 7, 8, 11, 12, 9, 10, 13])] 152 = true := by kernel_rfl
theorem to163 : chkO Try.prog [(5, [0, 1, 2, 3, 4, 5, 6, 7, 8, 9])] 163 = true := by kernel_rfl
theorem to170 : chkO Try.prog [(0, [0, 2, 3, 4, 5, 6, 1, 7, 8]), (5, [0, 1, 2, 3, 4, 5, 6, 7, 8, 9, 10, 11, 12, 13, 14, 15, 16, 17, 18, 19, 20, 23, 24, 21, 22, 25])] 170 = true := by kernel_rfl
theorem to185 : chkO Try.prog [(0, [0, 1, 2, 3, 4, 6, 7, 8, 9, 10, 5, 11, 12, 13]), (1, [0, 1, 2, 3, 4, 5, 6, 7, 8, 9, 10, 11, 12, 13, 14, 15, 16, 19, 20, 17, 18, 21])] 185 = true := by kernel_rfl
theorem to190 : chkO Try.prog [(0, [0, 1, 2, 3, 4, 5, 6, 7, 8, 9, 10, 11, 12, 13, 14, 17, 18, 15, 16, 19])] 190 = true := by kernel_rfl
theorem to195 : chkO Try.prog [(1, [0, 1, 2, 3, 4, 5, 6, 7, 8, 9, 11, 12, 10, 13])] 195 = true := by kernel_rfl
theorem to206 : chkO Try.prog [(3, [0, 1, 2, 3, 4, 5, 6, 7, 8, 9, 10, 11, 12, 13, 14, 15, 19, 20, 16, 17, 18, 21]), (4, [0, 1, 2, 3, 4, 5, 6, 7, 8, 9, 10])] 206 = true := by kernel_rfl
theorem to211 : chkO Try.prog [(3, [0, 1, 2, 3, 4, 5, 6, 7, 8, 9, 10, 11, 12, 13, 18, 20, 21, 14, 15, 16, 17, 19, 22]), (4, [0, 1, 2, 3, 4, 5, 6, 7, 8, 9, 11, 12, 10, 13])] 211 = true := by kernel_rfl
theorem to215 : chkO Try.prog [(0, [0, 1, 2, 3, 4, 5, 6, 7, 8, 9, 10, 11, 12, 13, 14, 15, 16])] 215 = true := by kernel_rfl
end Go.Proofs.Ytlmenjenkpnacaa
end
