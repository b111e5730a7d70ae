/- DequeAlone's loop: some of its rounds. -/
import Derived.Test.YtjcphbcjnjeccaaLwXA
import Derived.Test.YtjcphbcjnjeccaaLwDnT
set_option linter.unusedVariables false
set_option linter.unusedSimpArgs false

section
namespace Go.Proofs.Ytjcphbcjnjeccaa
open Go Go.Sy Go.RowKit

theorem rD1_10 : roundD Try.prog 1 (qAt cases1 10) = some s1_10 := by kernel_rfl
theorem rD1_11 : roundD Try.prog 1 (qAt cases1 11) = some s1_11 := by kernel_rfl
end Go.Proofs.Ytjcphbcjnjeccaa
end
