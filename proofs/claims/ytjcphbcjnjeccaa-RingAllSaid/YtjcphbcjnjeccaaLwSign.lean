/- The closed facts of the program alone: its sign says that it was cut for a harness. (SGNB, SGNR: the sign's letters, as numbers; printed by wip/tools/sign.py.) -/
import Derived.Test.YtjcphbcjnjeccaaLwBase
import Derived.Test.YtjcphbcjnjeccaaSy14
set_option linter.unusedVariables false
set_option linter.unusedSimpArgs false
namespace Go.Proofs.Ytjcphbcjnjeccaa
open Go Go.Sy

def sgnB : List Char := List.map Char.ofNat [49,101,102,48,98,48,97,101,97,48,100,52,98,56,99,56,102,97,53,97,57,102,102,50,57,55,50,50,52,54,49,49,56,53,48,54,101,55,50,53,49,99,98,100,51,52,50,102,54,97,52,53,99,102,56,53,49,99,98,55,56,100,55,48]
def sgnR : List Char := List.map Char.ofNat [97,116,32,99,111,97,99,104,121,97,114,100,47,99,111,97,99,104,121,97,114,100,108,97,119,48,55,46,68,101,113,117,101,65,108,108,32,99,111,97,99,104,121,97,114,100,47,99,111,97,99,104,121,97,114,100,108,97,119,48,55,46,68,101,113,117,101,65,108,111,110,101,32,99,111,97,99,104,121,97,114,100,47,99,111,97,99,104,121,97,114,100,108,97,119,48,55,46,68,101,113,117,101,83,116,101,112,115,32,99,111,97,99,104,121,97,114,100,47,99,111,97,99,104,121,97,114,100,108,97,119,48,55,46,68,101,113,117,101,83,116,101,97,108,115,32,99,111,97,99,104,121,97,114,100,47,99,111,97,99,104,121,97,114,100,108,97,119,48,55,46,68,101,113,117,101,80,108,97,121,115,32,99,111,97,99,104,121,97,114,100,47,99,111,97,99,104,121,97,114,100,108,97,119,48,56,46,82,105,110,103,65,108,108,32,99,111,97,99,104,121,97,114,100,47,99,111,97,99,104,121,97,114,100,108,97,119,48,56,46,82,105,110,103,65,108,111,110,101,32,99,111,97,99,104,121,97,114,100,47,99,111,97,99,104,121,97,114,100,108,97,119,48,56,46,82,105,110,103,80,108,97,121,115,32,99,111,97,99,104,121,97,114,100,47,99,111,97,99,104,121,97,114,100,108,97,119,50,50,46,80,105,99,107,115,67,111,117,110,116,32,99,111,97,99,104,121,97,114,100,47,99,111,97,99,104,121,97,114,100,108,97,119,50,50,46,80,105,99,107,115,66,101,103,105,110,32,99,111,97,99,104,121,97,114,100,47,99,111,97,99,104,121,97,114,100,108,97,119,50,50,46,80,105,99,107,115,65,114,101]
theorem sign : Try.prog.initOrder = String.ofList (signOf sgnB sgnR) := by kernel_rfl
theorem words : behindMainWord (wordsSigns Try.prog.initOrder.toList) = sgnC :: wordsSigns sgnR := words_of sign (by decide +kernel) (by decide +kernel)
theorem facts : ProgFacts Try.prog where
  laid := by kernel_rfl
  rowed := by kernel_rfl
  stops := by kernel_rfl
  knobs := by kernel_rfl
  keys := by kernel_rfl
  heard := by kernel_rfl
  enter := mayEnter_of words (by kernel_rfl) (by kernel_rfl) (by kernel_rfl)
  final := liftsFinal_of words
  make := make_of words
end Go.Proofs.Ytjcphbcjnjeccaa
