import Derived.Test.YtjcphbcjnjeccaaSy11b
set_option linter.unusedVariables false
set_option linter.unusedSimpArgs false
namespace Go.Sy
open Go

section
variable {P : Program} {G : Type} {O : Orac} {I : In G}

/-- A call, by the executor. -/
theorem runX_calls (pr : PR P) (oo : OOK P O I) {f : Nat} {args : List SV} {pc : PC} {hp : Heap} {cs : List CLeaf} (h : runX P O f args pc hp = some cs) (B : Base) (ν : Env G) (ρ : Nat → Nat) (w : World) (R : Ending → World → Prop) (hI : ν.I = I)
    (hpc : pcDen ν pc) (hw : HW B ν ρ hp w)
    (hc : ∀ c ∈ cs, ∀ ν' ρ' w', Agree LO (LO + LO) ν ν' ρ ρ' → pcDen ν' c.pc → c.bad = false ∧ (HW B ν' ρ' c.hp w' → R (.returned (c.v.den ν' ρ')) w')) : Calls P f (denL ν ρ args).toArray w R :=
  x_call pr oo h B ν ρ w R hI hpc hw hc

/-- No oracle. -/
theorem noOrac_ok : OOK P noOrac I := ⟨fun h => by simp [noOrac] at h, fun _ h => by simp [noOrac] at h, fun h => by simp [noOrac] at h⟩

/-- No ghosts. -/
def In.none : In Unit := ⟨fun _ _ _ _ => 0, fun _ _ _ _ => false, fun _ _ _ _ => [], fun _ _ _ _ _ _ _ _ => (), fun _ _ _ => .bool false, fun _ _ _ => rfl, fun _ _ _ F => ∀ k, ¬ F k, fun h k hk => absurd hk (h k), fun h _ => h⟩

/-- The heap of which nothing is said. -/
theorem HW.empty (B : Base) (ν : Env G) (ρ : Nat → Nat) : HW B ν ρ [] B.w0 :=
  ⟨rfl, rfl, rfl, Nat.le_refl _, fun _ _ => rfl, by simp, ⟨fun _ _ => False, fun n b h => (List.not_mem_nil h).elim, fun n b k h => (List.not_mem_nil h).elim, fun n b m c k h => (List.not_mem_nil h).elim⟩⟩
end
end Go.Sy
