/- Those regions, function by function. (Printed by tails.py.) -/
import Derived.Test.YtlmenjenkpnacaaLwXA
import Derived.Test.YtlmenjenkpnacaaLwXT
import Derived.Test.YtlmenjenkpnacaaLwXU
set_option linter.unusedVariables false
set_option linter.unusedSimpArgs false

section
namespace Go.Proofs.Ytlmenjenkpnacaa
open Go Go.Sy Go.RowKit

theorem tl9 : chkF Try.prog [(31, 5), (40, 9), (66, 26), (71, 36)] 9 = true := by kernel_rfl
theorem tl13 : chkF Try.prog [(17, 12)] 13 = true := by kernel_rfl
theorem tl24 : chkF Try.prog [(6, 8)] 24 = true := by kernel_rfl
theorem tl38 : chkF Try.prog [(6, 15), (15, 19)] 38 = true := by kernel_rfl
theorem tl52 : chkF Try.prog [(16, 18)] 52 = true := by kernel_rfl
theorem tl68 : chkF Try.prog [(5, 9), (8, 12)] 68 = true := by kernel_rfl
theorem tl86 : chkF Try.prog [(8, 12), (9, 16), (12, 16)] 86 = true := by kernel_rfl
theorem tl100 : chkF Try.prog [(0, 12)] 100 = true := by kernel_rfl
theorem tl114 : chkF Try.prog [(13, 14)] 114 = true := by kernel_rfl
theorem tl132 : chkF Try.prog [(1, 13)] 132 = true := by kernel_rfl
theorem tl151 : chkF Try.prog [(2, 31)] 151 = true := by kernel_rfl
theorem tl161 : chkF Try.prog [(5, 13)] 161 = true := by kernel_rfl
theorem tl166 : chkF Try.prog [(2, 16)] 166 = true := by kernel_rfl
theorem tl181 : chkF Try.prog [(2, 11)] 181 = true := by kernel_rfl
theorem tl188 : chkF Try.prog [(2, 16), (3, 16)] 188 = true := by kernel_rfl
theorem tl193 : chkF Try.prog [(2, 18)] 193 = true := by kernel_rfl
theorem tl200 : chkF Try.prog [(1, 8), (3, 15)] 200 = true := by kernel_rfl
theorem tl209 : chkF Try.prog [(3, 16)] 209 = true := by kernel_rfl
theorem tl213 : chkF Try.prog [(0, 18)] 213 = true := by kernel_rfl
theorem to8 : chkO Try.prog [(5, (.first 0 (.first 2 (.first 3 (.first 4 (.first 5 (.alt 1 (.alt 6 (.alt 7 .done .stop) .stop) .stop))))))), (7, (.first 0 (.first 1 (.first 3 (.first 4 (.first 5 (.first 6 (.first 7 (.first 9 (.first 11 (.alt 2 (.alt 8 (.alt 10 (.alt 12 (.first 13 (.first 14 (.first 16 (.first 17 (.first 18 (.first 19 (.first 21 (.first 23 (.alt 15 (.alt 20 (.alt 22 (.alt 24 (.alt 25 (.first 26 .done) .stop) .stop) .stop) .stop) .stop))))))))) .stop) .stop) .stop) .stop)))))))))))] 8 = true := by kernel_rfl
theorem to12 : chkO Try.prog [(51, (.first 0 (.first 1 (.first 4 (.first 5 (.alt 2 (.first 3 (.alt 6 .done .stop)) .stop))))))] 12 = true := by kernel_rfl
theorem to22 : chkO Try.prog [(4, (.first 0 (.first 2 (.first 3 (.first 4 (.first 5 (.first 6 (.first 7 (.alt 1 (.alt 8 (.alt 9 (.alt 10 (.first 11 .done) .stop) .stop) .stop) (.alt 8 (.alt 1 (.alt 9 (.alt 10 (.first 11 .done) .stop) .stop) (.alt 9 (.alt 1 (.alt 10 (.first 11 .done) .stop) .stop) .stop)) .stop))))))))))] 22 = true := by kernel_rfl
theorem to35 : chkO Try.prog [(7, (.first 0 (.first 1 (.first 2 (.first 3 (.first 4 (.first 6 (.alt 5 (.alt 7 (.alt 8 (.alt 9 (.alt 10 (.alt 11 (.first 12 .done) .stop) .stop) .stop) .stop) .stop) (.alt 7 (.alt 5 (.alt 8 (.alt 9 (.alt 10 (.alt 11 (.first 12 .done) .stop) .stop) .stop) .stop) .stop) .stop))))))))), (9, (.first 0 (.first 1 (.first 2 (.first 6 (.first 7 (.alt 3 (.first 4 (.first 5 (.alt 8 (.first 9 (.first 10 (.alt 11 .done .stop))) .stop))) (.alt 8 (.first 9 (.first 10 (.alt 3 (.first 4 (.first 5 (.alt 11 .done .stop))) .stop))) .stop))))))))] 35 = true := by kernel_rfl
theorem to50 : chkO Try.prog [(7, (.first 0 (.first 1 (.first 2 (.first 3 (.first 4 (.first 6 (.alt 5 (.alt 7 (.alt 8 (.alt 9 (.alt 10 (.alt 11 (.first 12 .done) .stop) .stop) .stop) .stop) .stop) (.alt 7 (.alt 5 (.alt 8 (.alt 9 (.alt 10 (.alt 11 (.first 12 .done) .stop) .stop) .stop) .stop) .stop) .stop))))))))), (9, (.first 0 (.first 1 (.first 2 (.first 6 (.first 7 (.alt 3 (.first 4 (.first 5 (.alt 8 (.first 9 (.first 10 (.alt 11 .done .stop))) .stop))) (.alt 8 (.first 9 (.first 10 (.alt 3 (.first 4 (.first 5 (.alt 11 .done .stop))) .stop))) .stop))))))))] 50 = true := by kernel_rfl
theorem to67 : chkO Try.prog [(3, (.first 0 (.first 2 (.alt 1 (.first 6 (.alt 3 (.first 4 (.alt 5 (.alt 7 .done .stop) .stop)) .stop)) (.alt 3 (.first 4 (.alt 1 (.first 6 (.alt 5 (.alt 7 .done .stop) .stop)) (.alt 5 (.alt 1 (.first 6 (.alt 7 .done .stop)) .stop) .stop))) .stop)))))] 67 = true := by kernel_rfl
theorem to78 : chkO Try.prog [(3, (.first 0 (.first 1 (.first 2 (.first 3 (.first 4 (.first 5 (.first 6 (.first 7 (.alt 8 (.alt 9 (.alt 10 (.first 11 .done) .stop) .stop) .stop))))))))))] 78 = true := by kernel_rfl
theorem to92 : chkO Try.prog [(5, (.first 0 (.first 2 (.first 3 (.first 4 (.first 5 (.alt 1 (.alt 6 (.alt 7 (.alt 8 (.alt 9 (.first 10 .done) .stop) .stop) .stop) .stop) (.alt 6 (.alt 1 (.alt 7 (.alt 8 (.alt 9 (.first 10 .done) .stop) .stop) .stop) (.alt 7 (.alt 1 (.alt 8 (.alt 9 (.first 10 .done) .stop) .stop) (.alt 8 (.alt 1 (.alt 9 (.first 10 .done) .stop) .stop) .stop)) .stop)) .stop))))))))] 92 = true := by kernel_rfl
theorem to103 : chkO Try.prog [(1, (.first 0 (.first 1 (.first 2 (.first 3 (.first 4 (.first 5 (.first 6 (.first 7 (.first 8 (.first 9 (.first 10 (.first 11 (.first 12 (.first 13 (.first 14 (.first 16 (.first 17 (.first 19 (.first 20 (.alt 15 (.alt 18 (.alt 21 .done .stop) .stop) .stop)))))))))))))))))))))] 103 = true := by kernel_rfl
theorem to118 : chkO Try.prog [(0, (.first 0 (.first 1 (.first 3 (.first 4 (.alt 2 (.alt 5 (.alt 6 (.first 7 (.alt 8 .done .stop)) .stop) .stop) (.alt 5 (.alt 2 (.alt 6 (.first 7 (.alt 8 .done .stop)) .stop) (.alt 6 (.first 7 (.alt 2 (.alt 8 .done .stop) .stop)) .stop)) .stop)))))))] 118 = true := by kernel_rfl
theorem to130 : chkO Try.prog [(1, (.first 0 (.first 1 (.first 2 (.first 3 (.first 4 (.first 5 (.first 6 (.first 7 (.first 8 (.first 9 (.first 11 (.first 12 (.alt 10 (.alt 13 .done .stop) .stop))))))))))))))] 130 = true := by kernel_rfl
theorem to145 : chkO Try.prog [(0, (.first 0 (.first 1 (.first 2 (.first 3 (.first 4 (.first 5 (.first 6 (.first 7 (.first 8 (.first 9 (.first 10 (.first 11 (.first 12 (.first 13 (.first 14 (.first 15 (.first 16 (.first 17 (.first 21 (.first 22 (.alt 18 (.alt 19 (.alt 20 (.alt 23 .done .stop) .stop) .stop) .stop))))))))))))))))))))))] 145 = true := by kernel_rfl
theorem to154 : chkO Try.prog [(1, (.first 0 (.first 1 (.first 2 (.first 3 (.first 4 (.first 5 (.first 6 (.first 7 (.first 8 (.first 9 (.first 10 (.first 11 (.first 12 (.first 13 (.first 14 (.first 16 (.first 17 (.first 18 (.first 19 (.first 20 (.first 23 (.first 24 (.alt 15 (.alt 21 (.alt 22 (.alt 25 .done .stop) .stop) .stop) (.alt 21 (.alt 15 (.alt 22 (.alt 25 .done .stop) .stop) .stop) .stop)))))))))))))))))))))))))] 154 = true := by kernel_rfl
theorem to163 : chkO Try.prog [(5, (.first 0 (.first 1 (.first 2 (.first 3 (.first 4 (.first 5 (.first 6 (.first 7 (.alt 8 (.alt 9 .done .stop) .stop))))))))))] 163 = true := by kernel_rfl
theorem to170 : chkO Try.prog [(0, (.first 0 (.first 2 (.first 3 (.first 4 (.first 5 (.first 6 (.alt 1 (.alt 7 (.alt 8 .done .stop) .stop) .stop)))))))), (5, (.first 0 (.first 1 (.first 2 (.first 3 (.first 4 (.first 5 (.first 6 (.first 7 (.first 8 (.first 9 (.first 10 (.first 11 (.first 12 (.first 13 (.first 14 (.first 15 (.first 16 (.first 17 (.first 18 (.first 19 (.first 20 (.first 23 (.first 24 (.alt 21 (.alt 22 (.alt 25 .done .stop) .stop) .stop)))))))))))))))))))))))))] 170 = true := by kernel_rfl
theorem to185 : chkO Try.prog [(0, (.first 0 (.first 1 (.first 2 (.first 3 (.first 4 (.first 6 (.first 7 (.first 8 (.first 9 (.first 10 (.alt 5 (.alt 11 (.alt 12 (.first 13 .done) .stop) .stop) .stop)))))))))))), (1, (.first 0 (.first 1 (.first 2 (.first 3 (.first 4 (.first 5 (.first 6 (.first 7 (.first 8 (.first 9 (.first 10 (.first 11 (.first 12 (.first 13 (.first 14 (.first 15 (.first 16 (.first 19 (.first 20 (.alt 17 (.alt 18 (.alt 21 .done .stop) .stop) .stop)))))))))))))))))))))] 185 = true := by kernel_rfl
theorem to190 : chkO Try.prog [(0, (.first 0 (.first 1 (.first 2 (.first 3 (.first 4 (.first 5 (.first 6 (.first 7 (.first 8 (.first 9 (.first 10 (.first 11 (.first 12 (.first 13 (.first 14 (.first 17 (.first 18 (.alt 15 (.alt 16 (.alt 19 .done .stop) .stop) .stop)))))))))))))))))))] 190 = true := by kernel_rfl
theorem to195 : chkO Try.prog [(1, (.first 0 (.first 1 (.first 2 (.first 3 (.first 4 (.first 5 (.first 6 (.first 7 (.first 8 (.first 9 (.first 11 (.first 12 (.alt 10 (.alt 13 .done .stop) .stop))))))))))))))] 195 = true := by kernel_rfl
theorem to206 : chkO Try.prog [(3, (.first 0 (.first 1 (.first 2 (.first 3 (.first 4 (.first 5 (.first 6 (.first 7 (.first 8 (.first 9 (.first 10 (.first 11 (.first 12 (.first 13 (.first 14 (.first 15 (.first 19 (.first 20 (.alt 16 (.alt 17 (.alt 18 (.alt 21 .done .stop) .stop) .stop) .stop)))))))))))))))))))), (4, (.first 0 (.first 1 (.first 2 (.first 3 (.first 4 (.first 5 (.first 6 (.first 7 (.alt 8 (.alt 9 (.alt 10 .done .stop) .stop) .stop))))))))))] 206 = true := by kernel_rfl
theorem to211 : chkO Try.prog [(3, (.first 0 (.first 1 (.first 2 (.first 3 (.first 4 (.first 5 (.first 6 (.first 7 (.first 8 (.first 9 (.first 10 (.first 11 (.first 12 (.first 13 (.first 18 (.first 20 (.first 21 (.alt 14 (.alt 15 (.alt 16 (.alt 17 (.alt 19 (.alt 22 .done .stop) .stop) .stop) .stop) .stop) .stop))))))))))))))))))), (4, (.first 0 (.first 1 (.first 2 (.first 3 (.first 4 (.first 5 (.first 6 (.first 7 (.first 8 (.first 9 (.first 11 (.first 12 (.alt 10 (.alt 13 .done .stop) .stop))))))))))))))] 211 = true := by kernel_rfl
theorem to215 : chkO Try.prog [(0, (.first 0 (.first 1 (.first 2 (.first 3 (.first 4 (.first 5 (.first 6 (.first 7 (.first 8 (.first 9 (.first 10 (.first 11 (.alt 12 (.alt 13 (.first 14 (.alt 15 (.alt 16 .done .stop) .stop)) .stop) .stop))))))))))))))] 215 = true := by kernel_rfl
end Go.Proofs.Ytlmenjenkpnacaa
end

section
namespace Go.Proofs.Ytlmenjenkpnacaa
open Go Go.Sy Go.RowKit

theorem tabQ_ok : ∀ x ∈ tabQ, chkF Try.prog x.2 x.1 = true := by
  unfold tabQ
  simp only [List.forall_mem_cons, List.not_mem_nil, false_imp_iff, implies_true, and_true]
  exact ⟨tl5, tl6, tl8, tl9, tl10, tl11, tl12, tl13, tl14, tl20, tl22, tl24, tl26, tl32, tl35, tl38, tl39, tl42, tl50, tl52, tl57, tl60, tl67, tl68, tl70, tl71, tl84, tl86, tl91, tl92, tl99, tl100, tl103, tl105, tl112, tl114, tl119, tl121, tl130, tl132, tl135, tl145, tl148, tl151, tl152, tl154, tl158, tl161, tl162, tl163, tl165, tl166, tl169, tl170, tl171, tl181, tl184, tl185, tl187, tl188, tl189, tl190, tl192, tl193, tl194, tl195, tl199, tl200, tl202, tl206, tl208, tl209, tl210, tl211, tl212, tl213, tl214, tl215⟩
theorem tabR_ok : ∀ x ∈ tabR, chkO Try.prog x.2 x.1 = true := by
  unfold tabR
  simp only [List.forall_mem_cons, List.not_mem_nil, false_imp_iff, implies_true, and_true]
  exact ⟨to4, to5, to6, to8, to9, to10, to11, to12, to13, to14, to20, to22, to24, to26, to32, to35, to38, to39, to42, to50, to52, to57, to60, to67, to68, to70, to71, to78, to84, to86, to91, to92, to99, to100, to101, to103, to105, to112, to114, to118, to119, to120, to121, to130, to131, to132, to135, to145, to148, to151, to152, to154, to158, to161, to162, to163, to165, to166, to169, to170, to171, to181, to184, to185, to187, to188, to189, to190, to192, to193, to194, to195, to199, to200, to202, to206, to208, to209, to210, to211, to212, to213, to214, to215⟩
theorem qO_ok {G : Type} {I : In G} : OOK Try.prog qO I := withOrder_ok (withTail_ok noOrac_ok tabQ_ok) tabR_ok
end Go.Proofs.Ytlmenjenkpnacaa
end
