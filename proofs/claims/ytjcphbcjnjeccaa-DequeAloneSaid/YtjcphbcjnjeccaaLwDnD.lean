/- DequeAlone's loop: some of its rounds. -/
import Derived.Test.YtjcphbcjnjeccaaLwXA
import Derived.Test.YtjcphbcjnjeccaaLwDnT
set_option linter.unusedVariables false
set_option linter.unusedSimpArgs false

section
namespace Go.Proofs.Ytjcphbcjnjeccaa
open Go Go.Sy Go.RowKit

theorem rD1_7 : roundD Try.prog 1 (qAt cases1 7) = some s1_7 := by kernel_rfl
theorem rD1_8 : roundD Try.prog 1 (qAt cases1 8) = some s1_8 := by kernel_rfl
theorem rD1_9 : roundD Try.prog 1 (qAt cases1 9) = some s1_9 := by kernel_rfl
end Go.Proofs.Ytjcphbcjnjeccaa
end
