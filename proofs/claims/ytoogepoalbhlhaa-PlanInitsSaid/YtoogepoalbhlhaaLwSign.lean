/- The closed facts of the program alone: its sign says that it was cut for a harness. (SGNB, SGNR: the sign's letters, as numbers; printed by wip/tools/sign.py.) -/
import Derived.Test.YtoogepoalbhlhaaLwBase
import Derived.Test.YtoogepoalbhlhaaSy14
set_option linter.unusedVariables false
set_option linter.unusedSimpArgs false
namespace Go.Proofs.Ytoogepoalbhlhaa
open Go Go.Sy

def sgnB : List Char := List.map Char.ofNat [53,100,101,54,102,50,52,100,53,52,48,101,54,56,48,57,55,53,97,49,99,99,57,101,53,53,53,57,57,57,55,56,98,101,54,49,100,97,50,51,57,54,56,100,100,101,51,55,51,101,53,52,57,51,56,48,49,54,50,56,52,51,57,98]
def sgnR : List Char := List.map Char.ofNat [97,116,32,99,111,97,99,104,121,97,114,100,47,99,111,97,99,104,121,97,114,100,108,97,119,49,50,46,80,108,97,110,80,97,114,116,115,32,99,111,97,99,104,121,97,114,100,47,99,111,97,99,104,121,97,114,100,108,97,119,48,51,46,67,101,108,108,115,80,108,97,121,32,99,111,97,99,104,121,97,114,100,47,99,111,97,99,104,121,97,114,100,108,97,119,48,51,46,67,101,108,108,115,65,112,97,114,116,32,99,111,97,99,104,121,97,114,100,47,99,111,97,99,104,121,97,114,100,108,97,119,48,51,46,67,101,108,108,115,70,105,108,108,32,99,111,97,99,104,121,97,114,100,47,99,111,97,99,104,121,97,114,100,108,97,119,49,50,46,80,108,97,110,73,110,105,116,115,32,99,111,97,99,104,121,97,114,100,47,99,111,97,99,104,121,97,114,100,108,97,119,48,54,46,65,114,101,110,97,65,108,111,110,101,32,99,111,97,99,104,121,97,114,100,47,99,111,97,99,104,121,97,114,100,108,97,119,48,54,46,65,114,101,110,97,73,110,105,116,115,32,99,111,97,99,104,121,97,114,100,47,99,111,97,99,104,121,97,114,100,108,97,119,48,54,46,65,114,101,110,97,79,110,99,101,32,99,111,97,99,104,121,97,114,100,47,99,111,97,99,104,121,97,114,100,108,97,119,48,54,46,65,114,101,110,97,83,116,101,112,115,32,99,111,97,99,104,121,97,114,100,47,99,111,97,99,104,121,97,114,100,108,97,119,51,50,46,76,97,110,101,80,108,97,121,115,32,99,111,97,99,104,121,97,114,100,47,99,111,97,99,104,121,97,114,100,108,97,119,51,50,46,76,97,110,101,65,108,111,110,101,32,99,111,97,99,104,121,97,114,100,47,99,111,97,99,104,121,97,114,100,108,97,119,51,50,46,76,97,110,101,65,108,108]
theorem sign : Try.prog.initOrder = String.ofList (signOf sgnB sgnR) := by kernel_rfl
theorem words : behindMainWord (wordsSigns Try.prog.initOrder.toList) = sgnC :: wordsSigns sgnR := words_of sign (by decide +kernel) (by decide +kernel)
theorem facts : ProgFacts Try.prog where
  laid := by kernel_rfl
  rowed := by kernel_rfl
  stops := by kernel_rfl
  knobs := by kernel_rfl
  keys := by kernel_rfl
  heard := by kernel_rfl
  enter := mayEnter_of words (by kernel_rfl) (by kernel_rfl) (by kernel_rfl)
  final := liftsFinal_of words
  make := make_of words
end Go.Proofs.Ytoogepoalbhlhaa
