/- DequeAlone's loop: some of its rounds. -/
import Derived.Test.YtjcphbcjnjeccaaLwXA
import Derived.Test.YtjcphbcjnjeccaaLwDnT
set_option linter.unusedVariables false
set_option linter.unusedSimpArgs false

section
namespace Go.Proofs.Ytjcphbcjnjeccaa
open Go Go.Sy Go.RowKit

theorem rD0_0 : roundD Try.prog 0 (qAt cases0 0) = some s0_0 := by kernel_rfl
theorem rD0_1 : roundD Try.prog 0 (qAt cases0 1) = some s0_1 := by kernel_rfl
theorem rD0_2 : roundD Try.prog 0 (qAt cases0 2) = some s0_2 := by kernel_rfl
theorem rD0_3 : roundD Try.prog 0 (qAt cases0 3) = some s0_3 := by kernel_rfl
theorem rD0_4 : roundD Try.prog 0 (qAt cases0 4) = some s0_4 := by kernel_rfl
theorem rD1_0 : roundD Try.prog 1 (qAt cases1 0) = some s1_0 := by kernel_rfl
end Go.Proofs.Ytjcphbcjnjeccaa
end
