/- DequeAlone's loop: some of its rounds. -/
import Derived.Test.YtjcphbcjnjeccaaLwXA
import Derived.Test.YtjcphbcjnjeccaaLwDnT
set_option linter.unusedVariables false
set_option linter.unusedSimpArgs false

section
namespace Go.Proofs.Ytjcphbcjnjeccaa
open Go Go.Sy Go.RowKit

theorem rD1_12 : roundD Try.prog 1 (qAt cases1 12) = some s1_12 := by kernel_rfl
theorem rD1_13 : roundD Try.prog 1 (qAt cases1 13) = some s1_13 := by kernel_rfl
end Go.Proofs.Ytjcphbcjnjeccaa
end
