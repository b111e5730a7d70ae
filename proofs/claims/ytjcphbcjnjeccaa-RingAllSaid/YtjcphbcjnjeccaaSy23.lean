import Derived.Test.YtjcphbcjnjeccaaSy22
set_option linter.unusedVariables false
set_option linter.unusedSimpArgs false
namespace Go.Sy
open Go Go.RowKit

/-! ### contracts of calls that change nothing -/
/-- The leaves: may it be; the value; the path. -/
def lvOf : Option (List CLeaf) → Option (List (Bool × SV × PC))
  | some l => some (l.map fun c => (c.bad, c.v, c.pc))
  | none => none

theorem lv_calls {P : Program} {G : Type} {O : Orac} {I : In G} (pr : PR P) (oo : OOK P O I) {f : Nat} {args : List SV} {pc : PC} {hp : Heap} {l : List (Bool × SV × PC)} (h : lvOf (runX P O f args pc hp) = some l) (w : World) (ν : Env G) (ρ : Nat → Nat) (R : Ending → World → Prop) (hI : ν.I = I)
    (hpc : pcDen ν pc) (hw : HW (baseOf w) ν ρ hp w)
    (hc : ∀ x ∈ l, ∀ ν' ρ', Agree LO (LO + LO) ν ν' ρ ρ' → pcDen ν' x.2.2 → x.1 = false ∧ ∀ w', Below w.heap.size w w' → R (.returned (x.2.1.den ν' ρ')) w') : Calls P f (denL ν ρ args).toArray w R := by
  cases hr : runX P O f args pc hp with
  | none => rw [hr] at h; cases h
  | some cs =>
    rw [hr] at h
    simp only [lvOf, Option.some.injEq] at h
    refine runX_calls pr oo hr (baseOf w) ν ρ w R hI hpc hw fun c hm ν' ρ' w' hag hp' => ?_
    obtain ⟨h1, h2⟩ := hc (c.bad, c.v, c.pc) (by rw [← h]; exact List.mem_map.2 ⟨c, hm, rfl⟩) ν' ρ' hag hp'
    exact ⟨h1, fun hw' => h2 w' hw'.below⟩
end Go.Sy
