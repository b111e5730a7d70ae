/- The call coachyardlaw06.awake returns true, and leaves all that was there. (90 s.) -/
import Derived.Test.YtlmenjenkpnacaaLwXA
import Derived.Test.YtlmenjenkpnacaaSyE
set_option linter.unusedVariables false
set_option linter.unusedSimpArgs false

section
namespace Go.Proofs.Ytlmenjenkpnacaa
open Go Go.Sy Go.RowKit

theorem run_awake6 : restOf (runX Try.prog noOrac 14 [] [] []) = some [] := by kernel_rfl
theorem awake6_calls (w : World) : Calls Try.prog 14 #[] w fun e w' => e = .returned (.bool true) ∧ Below w.heap.size w w' :=
  law_auto pr (noOrac_ok (I := In.none)) run_awake6 w (envOf (fun _ => 0) (fun _ => false) (fun _ => []) noAddr) (fun _ => 0) rfl (pcDen_nil _) (HW.empty _ _ _)
def awakeK (_ : Nat) (args : List SV) (pc : PC) (hp : Heap) : Option (List CLeaf) := match args with
  | [] => some [⟨false, .bool (.lit true), pc, hp⟩]
  | _ => none
theorem awake6K_ok {G : Type} {O : Orac} {I : In G} (oo : OOK Try.prog O I) : OOK Try.prog (O.withCall 14 awakeK) I := by
  refine withCall_ok oo ?_
  intro lo args pc hp cs h sz hsz B ν ρ w R hI hpc hw hl
  unfold awakeK at h
  split at h
  · cases h
    exact pure_call' (v := .bool (.lit true)) hpc hw hl (List.mem_cons_self ..) (awake6_calls w)
  · cases h
end Go.Proofs.Ytlmenjenkpnacaa
end
