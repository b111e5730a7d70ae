/- Those regions, function by function. (Printed by tails.py.) -/
import Derived.Test.YtcbgmkngkkajlaaLwXA
import Derived.Test.YtcbgmkngkkajlaaLwXT
import Derived.Test.YtcbgmkngkkajlaaLwXU
set_option linter.unusedVariables false
set_option linter.unusedSimpArgs false

section
namespace Go.Proofs.Ytcbgmkngkkajlaa
open Go Go.Sy Go.RowKit

theorem tl8 : chkF Try.prog [(15, 19)] 8 = true := by kernel_rfl
theorem tl28 : chkF Try.prog [(6, 23), (14, 21)] 28 = true := by kernel_rfl
theorem tl46 : chkF Try.prog [(0, 10), (1, 14)] 46 = true := by kernel_rfl
theorem tl81 : chkF Try.prog [(2, 15)] 81 = true := by kernel_rfl
theorem tl88 : chkF Try.prog [(0, 23)] 88 = true := by kernel_rfl
theorem tl100 : chkF Try.prog [(4, 30), (8, 22)] 100 = true := by kernel_rfl
theorem tl108 : chkF Try.prog [(3, 19)] 108 = true := by kernel_rfl
theorem to15 : chkO Try.prog [(6, (.first 0 (.first 1 (.first 4 (.first 5 (.alt 2 (.first 3 (.alt 6 (.first 7 (.alt 8 .done .stop)) .stop)) (.alt 6 (.first 7 (.alt 2 (.first 3 (.alt 8 .done .stop)) .stop)) .stop)))))))] 15 = true := by kernel_rfl
theorem to32 : chkO Try.prog [(6, (.first 0 (.first 1 (.alt 2 (.first 3 (.alt 4 (.alt 5 (.alt 6 (.alt 7 (.alt 8 (.alt 9 (.alt 10 (.alt 11 (.alt 12 (.first 13 .done) .stop) .stop) .stop) .stop) .stop) .stop) .stop) (.alt 6 (.alt 5 (.alt 7 (.alt 8 (.alt 9 (.alt 10 (.alt 11 (.alt 12 (.first 13 .done) .stop) .stop) .stop) .stop) .stop) .stop) (.alt 7 (.alt 5 (.alt 8 (.alt 9 (.alt 10 (.alt 11 (.alt 12 (.first 13 .done) .stop) .stop) .stop) .stop) .stop) (.alt 8 (.alt 5 (.alt 9 (.alt 10 (.alt 11 (.alt 12 (.first 13 .done) .stop) .stop) .stop) .stop) (.alt 9 (.alt 5 (.alt 10 (.alt 11 (.alt 12 (.first 13 .done) .stop) .stop) .stop) (.alt 10 (.alt 5 (.alt 11 (.alt 12 (.first 13 .done) .stop) .stop) .stop) .stop)) .stop)) .stop)) .stop)) .stop)) (.alt 6 (.alt 4 (.alt 5 (.alt 7 (.alt 8 (.alt 9 (.alt 10 (.alt 11 (.alt 12 (.first 13 .done) .stop) .stop) .stop) .stop) .stop) .stop) (.alt 7 (.alt 5 (.alt 8 (.alt 9 (.alt 10 (.alt 11 (.alt 12 (.first 13 .done) .stop) .stop) .stop) .stop) .stop) (.alt 8 (.alt 5 (.alt 9 (.alt 10 (.alt 11 (.alt 12 (.first 13 .done) .stop) .stop) .stop) .stop) (.alt 9 (.alt 5 (.alt 10 (.alt 11 (.alt 12 (.first 13 .done) .stop) .stop) .stop) (.alt 10 (.alt 5 (.alt 11 (.alt 12 (.first 13 .done) .stop) .stop) .stop) .stop)) .stop)) .stop)) .stop)) (.alt 7 (.alt 4 (.alt 5 (.alt 8 (.alt 9 (.alt 10 (.alt 11 (.alt 12 (.first 13 .done) .stop) .stop) .stop) .stop) .stop) (.alt 8 (.alt 5 (.alt 9 (.alt 10 (.alt 11 (.alt 12 (.first 13 .done) .stop) .stop) .stop) .stop) (.alt 9 (.alt 5 (.alt 10 (.alt 11 (.alt 12 (.first 13 .done) .stop) .stop) .stop) (.alt 10 (.alt 5 (.alt 11 (.alt 12 (.first 13 .done) .stop) .stop) .stop) .stop)) .stop)) .stop)) (.alt 8 (.alt 4 (.alt 5 (.alt 9 (.alt 10 (.alt 11 (.alt 12 (.first 13 .done) .stop) .stop) .stop) .stop) (.alt 9 (.alt 5 (.alt 10 (.alt 11 (.alt 12 (.first 13 .done) .stop) .stop) .stop) (.alt 10 (.alt 5 (.alt 11 (.alt 12 (.first 13 .done) .stop) .stop) .stop) .stop)) .stop)) (.alt 9 (.alt 4 (.alt 5 (.alt 10 (.alt 11 (.alt 12 (.first 13 .done) .stop) .stop) .stop) (.alt 10 (.alt 5 (.alt 11 (.alt 12 (.first 13 .done) .stop) .stop) .stop) .stop)) (.alt 10 (.alt 4 (.alt 5 (.alt 11 (.alt 12 (.first 13 .done) .stop) .stop) .stop) .stop) .stop)) .stop)) .stop)) .stop)) .stop))) .stop)))), (8, (.first 0 (.first 1 (.first 2 (.first 3 (.first 4 (.first 5 (.alt 6 (.first 7 (.first 8 .done)) .stop)))))))), (10, (.first 0 (.first 1 (.first 2 (.first 3 (.first 4 (.first 5 (.first 6 (.alt 7 (.alt 8 .done .stop) .stop)))))))))] 32 = true := by kernel_rfl
theorem to52 : chkO Try.prog [(5, (.first 0 (.first 2 (.first 3 (.first 4 (.first 5 (.alt 1 (.alt 6 (.alt 7 (.first 8 .done) .stop) .stop) (.alt 6 (.alt 1 (.alt 7 (.first 8 .done) .stop) .stop) .stop))))))))] 52 = true := by kernel_rfl
theorem to81 : chkO Try.prog [(2, (.first 0 (.first 1 (.first 2 (.first 3 (.first 4 (.first 5 (.first 6 (.first 7 (.first 8 (.first 9 (.first 13 (.first 14 (.alt 10 (.alt 11 (.alt 12 (.alt 15 .done .stop) .stop) .stop) .stop))))))))))))))] 81 = true := by kernel_rfl
theorem to88 : chkO Try.prog [(0, (.first 0 (.first 1 (.first 2 (.first 3 (.first 4 (.first 5 (.first 6 (.first 7 (.first 8 (.first 9 (.first 10 (.first 11 (.first 12 (.first 13 (.first 14 (.first 15 (.first 16 (.first 17 (.first 21 (.first 22 (.alt 18 (.alt 19 (.alt 20 (.alt 23 .done .stop) .stop) .stop) .stop))))))))))))))))))))))] 88 = true := by kernel_rfl
theorem to100 : chkO Try.prog [(4, (.first 0 (.first 1 (.first 2 (.first 3 (.first 4 (.first 5 (.first 6 (.first 7 (.first 8 (.first 9 (.first 10 (.first 11 (.first 13 (.first 14 (.first 15 (.first 16 (.first 17 (.first 18 (.first 19 (.first 20 (.first 21 (.first 22 (.first 23 (.first 24 (.first 28 (.first 29 (.alt 12 (.alt 25 (.first 26 (.alt 27 (.alt 30 .done .stop) .stop)) .stop) (.alt 25 (.first 26 (.alt 12 (.alt 27 (.alt 30 .done .stop) .stop) .stop)) .stop))))))))))))))))))))))))))))), (8, (.first 0 (.first 1 (.first 2 (.first 3 (.first 4 (.first 5 (.first 6 (.first 7 (.first 8 (.first 10 (.first 11 (.first 12 (.first 13 (.first 14 (.first 15 (.first 16 (.first 17 (.first 18 (.first 20 (.first 21 (.alt 9 (.alt 19 (.alt 22 .done .stop) .stop) (.alt 19 (.alt 9 (.alt 22 .done .stop) .stop) .stop)))))))))))))))))))))))] 100 = true := by kernel_rfl
theorem to108 : chkO Try.prog [(2, (.first 0 (.first 1 (.first 2 (.first 3 (.first 4 (.first 5 (.first 6 (.first 7 (.first 8 (.alt 9 (.alt 10 .done .stop) .stop))))))))))), (3, (.first 0 (.first 1 (.first 2 (.first 3 (.first 4 (.first 5 (.first 6 (.first 7 (.first 8 (.first 9 (.first 11 (.first 12 (.first 13 (.first 14 (.first 17 (.first 18 (.alt 10 (.alt 15 (.alt 16 (.alt 19 .done .stop) .stop) .stop) (.alt 15 (.alt 10 (.alt 16 (.alt 19 .done .stop) .stop) .stop) .stop)))))))))))))))))))] 108 = true := by kernel_rfl
end Go.Proofs.Ytcbgmkngkkajlaa
end

section
namespace Go.Proofs.Ytcbgmkngkkajlaa
open Go Go.Sy Go.RowKit

theorem tabQ_ok : ∀ x ∈ tabQ, chkF Try.prog x.2 x.1 = true := by
  unfold tabQ
  simp only [List.forall_mem_cons, List.not_mem_nil, false_imp_iff, implies_true, and_true]
  exact ⟨tl3, tl4, tl7, tl8, tl15, tl25, tl27, tl28, tl30, tl32, tl34, tl46, tl52, tl66, tl78, tl81, tl82, tl85, tl86, tl88, tl95, tl97, tl99, tl100, tl104, tl105, tl106, tl108⟩
theorem tabR_ok : ∀ x ∈ tabR, chkO Try.prog x.2 x.1 = true := by
  unfold tabR
  simp only [List.forall_mem_cons, List.not_mem_nil, false_imp_iff, implies_true, and_true]
  exact ⟨to3, to4, to8, to15, to25, to27, to30, to32, to34, to44, to46, to52, to65, to66, to78, to81, to82, to85, to86, to88, to95, to97, to99, to100, to104, to105, to106, to108⟩
theorem qO_ok {G : Type} {I : In G} : OOK Try.prog qO I := withOrder_ok (withTail_ok noOrac_ok tabQ_ok) tabR_ok
end Go.Proofs.Ytcbgmkngkkajlaa
end
