/- Those calls as an oracle. (Printed by memo.py.) -/
import Derived.Test.YtiofchhmdkhfoaaGreatLwN131
import Derived.Test.YtiofchhmdkhfoaaGreatLwN133
import Derived.Test.YtiofchhmdkhfoaaGreatLwXM
import Derived.Test.YtiofchhmdkhfoaaGreatLwXA
set_option linter.unusedVariables false
set_option linter.unusedSimpArgs false

section
namespace Go.Proofs.YtiofchhmdkhfoaaGreat
open Go Go.Sy Go.RowKit

def msN13 : List (Nat × Tmpl × List CLeaf) := [(0, tN13_0_0, oN13_0_0), (0, tN13_0_1, oN13_0_1), (4, tN13_4_0, oN13_4_0), (4, tN13_4_1, oN13_4_1), (6, tN13_6_0, oN13_6_0), (6, tN13_6_1, oN13_6_1), (10, tN13_10_0, oN13_10_0), (12, tN13_12_0, oN13_12_0)]
def oN13 (P : Program) : Orac := (oM13 P).withCallF fN13 (memoM P keyC msN13)
theorem msN13_ok : ∀ x ∈ msN13, runX Tryz.prog (oM13 Tryz.prog) fN13 x.2.1.args x.2.1.pc x.2.1.hp = some x.2.2 := by
  unfold msN13
  simp only [List.forall_mem_cons, List.not_mem_nil, false_imp_iff, implies_true, and_true]
  exact ⟨mN13_0_0, mN13_0_1, mN13_4_0, mN13_4_1, mN13_6_0, mN13_6_1, mN13_10_0, mN13_12_0⟩
theorem oN13_ok {G : Type} {I : In G} (oo : OOK Tryz.prog (oM13 Tryz.prog) I) : OOK Tryz.prog (oN13 Tryz.prog) I := memoM_ok pr oo msN13_ok oo
end Go.Proofs.YtiofchhmdkhfoaaGreat
end

section
namespace Go.Proofs.YtiofchhmdkhfoaaGreat
open Go Go.Sy Go.RowKit

theorem oS13_ok {G : Type} {I : In G} : OOK Tryz.prog (oS13 Tryz.prog) I := opInvoke_ok pr (opIface_ok qO_ok)
theorem runA13 : restOf (runX Tryz.prog (oN13 Tryz.prog) fA13 [] [] []) = some [] := by kernel_rfl
theorem awake13_calls (w : World) : Calls Tryz.prog fA13 #[] w fun e w' => e = .returned (.bool true) ∧ Below w.heap.size w w' :=
  law_auto pr (oN13_ok (oM13_ok (oS13_ok (I := In.none)))) runA13 w (envOf (fun _ => 0) (fun _ => false) (fun _ => []) noAddr) (fun _ => 0) rfl (pcDen_nil _) (HW.empty _ _ _)
theorem awake13_ok {G : Type} {O : Orac} {I : In G} (oo : OOK Tryz.prog O I) : OOK Tryz.prog (O.withCall fA13 trueK) I := true_ok awake13_calls oo
end Go.Proofs.YtiofchhmdkhfoaaGreat
end
