/- DequeAlone's loop: some of its rounds. -/
import Derived.Test.YtjcphbcjnjeccaaLwXA
import Derived.Test.YtjcphbcjnjeccaaLwDnT
set_option linter.unusedVariables false
set_option linter.unusedSimpArgs false

section
namespace Go.Proofs.Ytjcphbcjnjeccaa
open Go Go.Sy Go.RowKit

theorem rD1_4 : roundD Try.prog 1 (qAt cases1 4) = some s1_4 := by kernel_rfl
theorem rD1_5 : roundD Try.prog 1 (qAt cases1 5) = some s1_5 := by kernel_rfl
theorem rD1_6 : roundD Try.prog 1 (qAt cases1 6) = some s1_6 := by kernel_rfl
end Go.Proofs.Ytjcphbcjnjeccaa
end
