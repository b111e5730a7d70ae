/- The contracts of the cells' calls, together. -/
import Derived.Test.YtoogepoalbhlhaaLwCells
import Derived.Test.YtoogepoalbhlhaaSy24
set_option linter.unusedVariables false
set_option linter.unusedSimpArgs false
namespace Go.Proofs.Ytoogepoalbhlhaa
open Go Go.Sy Go.RowKit

def orC : Orac := (((noOrac.withCall 33 eqK).withCall 77 eqK).withCallF 31 (doF 124 51)).withCall 32 (doRK 51)
theorem orC_ok : OOK Try.prog orC inM := doRK_ok (doF_ok (eqK_ok (eqK_ok noOrac_ok same_calls) equal_calls) do_calls) ref_calls
def acc4 (n : Nat) : SV := .agg [.int .i64 (.var n), .int .i64 (.var (n+1)), .int .u64 (.var (n+2)), .int .u64 (.var (n+3))]
def accs (k c a b k' c' a' b' o cap : Int) : Nat → Int | 0 => k | 1 => c | 2 => a | 3 => b | 4 => k' | 5 => c' | 6 => a' | 7 => b' | 8 => o | _ => cap

end Go.Proofs.Ytoogepoalbhlhaa
