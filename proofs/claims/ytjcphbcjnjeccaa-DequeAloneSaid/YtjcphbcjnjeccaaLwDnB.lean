/- DequeAlone's loop: some of its rounds. -/
import Derived.Test.YtjcphbcjnjeccaaLwXA
import Derived.Test.YtjcphbcjnjeccaaLwDnT
set_option linter.unusedVariables false
set_option linter.unusedSimpArgs false

section
namespace Go.Proofs.Ytjcphbcjnjeccaa
open Go Go.Sy Go.RowKit

theorem rD1_1 : roundD Try.prog 1 (qAt cases1 1) = some s1_1 := by kernel_rfl
theorem rD1_2 : roundD Try.prog 1 (qAt cases1 2) = some s1_2 := by kernel_rfl
theorem rD1_3 : roundD Try.prog 1 (qAt cases1 3) = some s1_3 := by kernel_rfl
end Go.Proofs.Ytjcphbcjnjeccaa
end
