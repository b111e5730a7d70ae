/- Those regions, function by function. (Printed by tails.py.) -/
import Derived.Test.YtlmenjenkpnacaaLwXA
import Derived.Test.YtlmenjenkpnacaaLwTailD
set_option linter.unusedVariables false
set_option linter.unusedSimpArgs false

section
namespace Go.Proofs.Ytlmenjenkpnacaa
open Go Go.Sy Go.RowKit

theorem tl6 : chkF Try.prog [(19, 8)] 6 = true := by kernel_rfl
theorem tl11 : chkF Try.prog [(13, 7), (32, 17)] 11 = true := by kernel_rfl
theorem tl20 : chkF Try.prog [(6, 8)] 20 = true := by kernel_rfl
theorem tl32 : chkF Try.prog [(9, 41), (12, 11)] 32 = true := by kernel_rfl
theorem tl42 : chkF Try.prog [(2, 8)] 42 = true := by kernel_rfl
theorem tl60 : chkF Try.prog [(5, 9), (8, 12)] 60 = true := by kernel_rfl
theorem tl71 : chkF Try.prog [(6, 13), (8, 8), (10, 8)] 71 = true := by kernel_rfl
theorem tl92 : chkF Try.prog [(5, 10)] 92 = true := by kernel_rfl
theorem tl105 : chkF Try.prog [(3, 12), (10, 12), (17, 12)] 105 = true := by kernel_rfl
theorem tl121 : chkF Try.prog [(1, 11)] 121 = true := by kernel_rfl
theorem tl145 : chkF Try.prog [(0, 23)] 145 = true := by kernel_rfl
theorem tl154 : chkF Try.prog [(1, 25)] 154 = true := by kernel_rfl
theorem tl163 : chkF Try.prog [(5, 8)] 163 = true := by kernel_rfl
theorem tl170 : chkF Try.prog [(0, 7), (5, 25)] 170 = true := by kernel_rfl
theorem tl185 : chkF Try.prog [(0, 13), (1, 21)] 185 = true := by kernel_rfl
theorem tl190 : chkF Try.prog [(0, 19)] 190 = true := by kernel_rfl
theorem tl195 : chkF Try.prog [(1, 13)] 195 = true := by kernel_rfl
theorem tl206 : chkF Try.prog [(3, 21), (4, 10)] 206 = true := by kernel_rfl
theorem tl211 : chkF Try.prog [(3, 22), (4, 13)] 211 = true := by kernel_rfl
theorem tl215 : chkF Try.prog [(0, 16)] 215 = true := by kernel_rfl
theorem to9 : chkO Try.prog [(31, [0, 1, 2, 3, 4, 5, 6]), (46, [0, 1, 2, 3, 4, 5, 6, 7, 10, 8, 9, 11, 12, 13, 14])] 9 = true := by kernel_rfl
theorem to13 : chkO Try.prog [(17, [0, 1, 3, 4, 6, 8, 9, 11, 2, 5, 7, 10, 12, 13, 14])] 13 = true := by kernel_rfl
theorem to84 : chkO Try.prog [(2, [0, 1, 2, 3, 4, 5, 6, 7, 8, 9, 13, 14, 10, 11, 12, 15])] 84 = true := by kernel_rfl
theorem to101 : chkO Try.prog [(0, [0, 1, 2, 3, 4, 5, 6])] 101 = true := by kernel_rfl
theorem to114 : chkO Try.prog [(9, [0, 1, 2, 3, 4, 5, 6, 7, 8, 9, 10, 11, 12, 13, 15, 16, 17, 18, 20, 14, 19, 21, 22]), (16, [0, 1, 2, 3, 4, 5, 6, 7, 8, 9, 10, 11, 12, 13, 16, 14, 15, 17, 18])] 114 = true := by kernel_rfl
theorem to132 : chkO Try.prog [(1, [0, 1, 2, 3, 4, 5, 6, 7, 8, 9, 11, 12, 10, 13])] 132 = true := by kernel_rfl
theorem to151 : chkO Try.prog [(1, [0, 1, 2, 3, 4, 5, 6, 7])] 151 = true := by kernel_rfl
theorem to162 : chkO Try.prog [(6, [0, 1, 2, 3, 4, 5, 6, 7, 8, 9]), (9, [0, 1, 2, 3, 4, 5, 6, 7, 8, 9])] 162 = true := by kernel_rfl
theorem to169 : chkO Try.prog [(3, [0, 1, 2, 3, 4, 5, 6, 7, 8, 9, 11, 12, 13, 14, 15, 16, 10, 17, 18]), (4, [0, 1, 2, 3, 4, 5, 6, 7, 8, 9, 10, 11, 12, 13, 14, 16, 17, 18, 19, 21, 22, 15, 20, 23])] 169 = true := by kernel_rfl
theorem to184 : chkO Try.prog [(1, [0, 1, 2, 3, 4, 5, 6, 7])] 184 = true := by kernel_rfl
theorem to189 : chkO Try.prog [(1, [0, 1, 2, 3, 4, 5, 6, 7, 8, 9, 10, 11, 13, 14, 12, 15])] 189 = true := by kernel_rfl
theorem to194 : chkO Try.prog [(2, [0, 1, 2, 3, 4, 5, 6, 7, 8, 9, 10, 11, 12, 13, 14, 16, 17, 15, 18])] 194 = true := by kernel_rfl
theorem to202 : chkO Try.prog [(2, [0, 1, 2, 3, 4, 5, 6, 7, 8, 9])] 202 = true := by kernel_rfl
theorem to210 : chkO Try.prog [(2, [0, 1, 2, 3, 4, 5, 6, 7, 8, 9, 10, 11, 12, 13, 14, 16, 17, 15, 18])] 210 = true := by kernel_rfl
theorem to214 : chkO Try.prog [(4, [0, 1, 2, 3, 4, 5, 6, 7, 8, 9, 10, 11, 12, 13, 14, 15, 16, 21, 22, 17, 18, 19, 20, 23])] 214 = true := by kernel_rfl
end Go.Proofs.Ytlmenjenkpnacaa
end
