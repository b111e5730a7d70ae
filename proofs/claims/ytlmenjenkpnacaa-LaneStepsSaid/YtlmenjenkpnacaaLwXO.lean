/- Those calls as an oracle. (Printed by memo.py.) -/
import Derived.Test.YtlmenjenkpnacaaLwN321
import Derived.Test.YtlmenjenkpnacaaLwN323
import Derived.Test.YtlmenjenkpnacaaLwXA
set_option linter.unusedVariables false
set_option linter.unusedSimpArgs false

section
namespace Go.Proofs.Ytlmenjenkpnacaa
open Go Go.Sy Go.RowKit

def msN32 : List (Nat × Tmpl × List CLeaf) := [(0, tN32_0, oN32_0), (5, tN32_5, oN32_5), (10, tN32_10, oN32_10), (12, tN32_12, oN32_12), (17, tN32_17, oN32_17), (22, tN32_22, oN32_22), (27, tN32_27, oN32_27), (32, tN32_32, oN32_32)]
def oN32 (P : Program) : Orac := (oM32 P).withCallF fN32 (memoK P keyC msN32)
theorem msN32_ok : ∀ x ∈ msN32, runX Try.prog (oM32 Try.prog) fN32 x.2.1.args x.2.1.pc x.2.1.hp = some x.2.2 := by
  unfold msN32
  simp only [List.forall_mem_cons, List.not_mem_nil, false_imp_iff, implies_true, and_true]
  exact ⟨mN32_0, mN32_5, mN32_10, mN32_12, mN32_17, mN32_22, mN32_27, mN32_32⟩
theorem oN32_ok {G : Type} {I : In G} (oo : OOK Try.prog (oM32 Try.prog) I) : OOK Try.prog (oN32 Try.prog) I := memo_ok pr oo msN32_ok oo
end Go.Proofs.Ytlmenjenkpnacaa
end

section
namespace Go.Proofs.Ytlmenjenkpnacaa
open Go Go.Sy Go.RowKit

theorem runB : restOf (runX Try.prog (oN32 Try.prog) fA32 [] [] []) = some [] := by kernel_rfl
theorem awake32_calls (w : World) : Calls Try.prog fA32 #[] w fun e w' => e = .returned (.bool true) ∧ Below w.heap.size w w' :=
  law_auto pr (oN32_ok (oM32_ok (oS32_ok (I := In.none)))) runB w (envOf (fun _ => 0) (fun _ => false) (fun _ => []) noAddr) (fun _ => 0) rfl (pcDen_nil _) (HW.empty _ _ _)
theorem awake32_ok {G : Type} {O : Orac} {I : In G} (oo : OOK Try.prog O I) : OOK Try.prog (O.withCall fA32 trueK) I := true_ok awake32_calls oo
end Go.Proofs.Ytlmenjenkpnacaa
end
