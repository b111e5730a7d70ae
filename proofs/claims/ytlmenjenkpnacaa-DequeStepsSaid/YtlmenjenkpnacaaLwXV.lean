/- Those regions, function by function. (Printed by tails.py.) -/
import Derived.Test.YtlmenjenkpnacaaLwXA
import Derived.Test.YtlmenjenkpnacaaLwXT
import Derived.Test.YtlmenjenkpnacaaLwXU
set_option linter.unusedVariables false
set_option linter.unusedSimpArgs false

section
namespace Go.Proofs.Ytlmenjenkpnacaa
open Go Go.Sy Go.RowKit

theorem tl24 : chkF Try.prog [(6, 8)] 24 = true := by kernel_rfl
theorem tl52 : chkF Try.prog [(16, 18)] 52 = true := by kernel_rfl
theorem tl114 : chkF Try.prog [(13, 14)] 114 = true := by kernel_rfl
theorem tl161 : chkF Try.prog [(5, 13)] 161 = true := by kernel_rfl
theorem tl166 : chkF Try.prog [(2, 16)] 166 = true := by kernel_rfl
theorem tl188 : chkF Try.prog [(2, 16), (3, 16)] 188 = true := by kernel_rfl
theorem tl200 : chkF Try.prog [(1, 8), (3, 15)] 200 = true := by kernel_rfl
theorem tl209 : chkF Try.prog [(3, 16)] 209 = true := by kernel_rfl
theorem to12 : chkO Try.prog [(51, (.first 0 (.first 1 (.first 4 (.first 5 (.alt 2 (.first 3 (.alt 6 .done .stop)) .stop))))))] 12 = true := by kernel_rfl
theorem to78 : chkO Try.prog [(3, (.first 0 (.first 1 (.first 2 (.first 3 (.first 4 (.first 5 (.first 6 (.first 7 (.alt 8 (.alt 9 (.alt 10 (.first 11 .done) .stop) .stop) .stop))))))))))] 78 = true := by kernel_rfl
theorem to118 : chkO Try.prog [(0, (.first 0 (.first 1 (.first 3 (.first 4 (.alt 2 (.alt 5 (.alt 6 (.first 7 (.alt 8 .done .stop)) .stop) .stop) (.alt 5 (.alt 2 (.alt 6 (.first 7 (.alt 8 .done .stop)) .stop) (.alt 6 (.first 7 (.alt 2 (.alt 8 .done .stop) .stop)) .stop)) .stop)))))))] 118 = true := by kernel_rfl
theorem to163 : chkO Try.prog [(5, (.first 0 (.first 1 (.first 2 (.first 3 (.first 4 (.first 5 (.first 6 (.first 7 (.alt 8 (.alt 9 .done .stop) .stop))))))))))] 163 = true := by kernel_rfl
end Go.Proofs.Ytlmenjenkpnacaa
end

section
namespace Go.Proofs.Ytlmenjenkpnacaa
open Go Go.Sy Go.RowKit

theorem tabQ_ok : ∀ x ∈ tabQ, chkF Try.prog x.2 x.1 = true := by
  unfold tabQ
  simp only [List.forall_mem_cons, List.not_mem_nil, false_imp_iff, implies_true, and_true]
  exact ⟨tl10, tl11, tl12, tl20, tl24, tl32, tl52, tl57, tl60, tl71, tl112, tl114, tl119, tl121, tl158, tl161, tl162, tl163, tl165, tl166, tl187, tl188, tl189, tl199, tl200, tl202, tl209⟩
theorem tabR_ok : ∀ x ∈ tabR, chkO Try.prog x.2 x.1 = true := by
  unfold tabR
  simp only [List.forall_mem_cons, List.not_mem_nil, false_imp_iff, implies_true, and_true]
  exact ⟨to10, to11, to12, to20, to24, to32, to52, to57, to60, to71, to78, to112, to114, to118, to119, to120, to121, to158, to161, to162, to163, to165, to166, to187, to188, to189, to199, to200, to202, to209⟩
theorem qO_ok {G : Type} {I : In G} : OOK Try.prog qO I := withOrder_ok (withTail_ok noOrac_ok tabQ_ok) tabR_ok
end Go.Proofs.Ytlmenjenkpnacaa
end
