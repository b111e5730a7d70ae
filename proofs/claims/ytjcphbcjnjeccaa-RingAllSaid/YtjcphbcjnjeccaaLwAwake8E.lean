/- The call coachyardlaw08.awake returns true, and leaves all that was there. -/
import Derived.Test.YtjcphbcjnjeccaaLwAwake8
import Derived.Test.YtjcphbcjnjeccaaLwAl8
set_option linter.unusedVariables false
set_option linter.unusedSimpArgs false
namespace Go.Proofs.Ytjcphbcjnjeccaa
open Go Go.Sy Go.RowKit

def oE8 (P : Program) : Orac := ((oA8 P).withCallF fAl (sumK P tS1 ouS1)).withCallF fAl (sumK P tS2 ouS2)
theorem oE8_ok {G : Type} {I : In G} (d : G) : OOK Try.prog (oE8 Try.prog) I := al2_ok d (al1_ok d (oA8_ok d))
theorem runA8 : restOf (runX Try.prog (oE8 Try.prog) fA8 [] [] []) = some [] := by kernel_rfl
theorem awake8_calls (w : World) : Calls Try.prog fA8 #[] w fun e w' => e = .returned (.bool true) ∧ Below w.heap.size w w' :=
  law_auto pr (oE8_ok (I := In.none) ()) runA8 w (envOf (fun _ => 0) (fun _ => false) (fun _ => []) noAddr) (fun _ => 0) rfl (pcDen_nil _) (HW.empty _ _ _)
def awakeK8 (_ : Nat) (args : List SV) (pc : PC) (hp : Heap) : Option (List CLeaf) := match args with
  | [] => some [⟨false, .bool (.lit true), pc, hp⟩]
  | _ => none
theorem awake8_ok {G : Type} {O : Orac} {I : In G} (oo : OOK Try.prog O I) : OOK Try.prog (O.withCall fA8 awakeK8) I := by
  refine withCall_ok oo ?_
  intro lo args pc hp cs h sz hsz B ν ρ w R hI hpc hw hl
  unfold awakeK8 at h
  split at h
  · cases h
    exact pure_call' (v := .bool (.lit true)) hpc hw hl (List.mem_cons_self ..) (awake8_calls w)
  · cases h
end Go.Proofs.Ytjcphbcjnjeccaa
