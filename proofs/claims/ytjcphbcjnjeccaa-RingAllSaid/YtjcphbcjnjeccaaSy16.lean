import Derived.Test.YtjcphbcjnjeccaaSy15
import Derived.Lib.SmallJoins
set_option linter.unusedVariables false
set_option linter.unusedSimpArgs false
namespace Go.Sy
open Go Go.RowKit Go.ChangeShapes Go.WideShapes Go.ChangeAt

/-! ### leaves that say yes of themselves -/
def CLeaf.yes (c : CLeaf) : Bool := !c.bad && (match c.v with | .bool (.lit b) => b | _ => false)
/-- The leaves that do not. -/
def restOf : Option (List CLeaf) → Option (List (Bool × SV × PC))
  | some cs => some ((cs.filter fun c => !c.yes).map fun c => (c.bad, c.v, c.pc))
  | none => none

theorem law_rest {P : Program} {G : Type} {O : Orac} {I : In G} (pr : PR P) (oo : OOK P O I) {f : Nat} {args : List SV} {pc : PC} {hp : Heap} {l : List (Bool × SV × PC)} (h : restOf (runX P O f args pc hp) = some l) (w : World) (ν : Env G) (ρ : Nat → Nat) (hI : ν.I = I)
    (hpc : pcDen ν pc) (hw : HW (baseOf w) ν ρ hp w)
    (hc : ∀ c ∈ l, ∀ ν' ρ', Agree LO (LO + LO) ν ν' ρ ρ' → pcDen ν' c.2.2 → c.1 = false ∧ c.2.1.den ν' ρ' = .bool true) : Calls P f (denL ν ρ args).toArray w fun e w' => e = .returned (.bool true) ∧ Below w.heap.size w w' := by
  cases hr : runX P O f args pc hp with
  | none => rw [hr] at h; cases h
  | some cs =>
    rw [hr] at h
    simp only [restOf, Option.some.injEq] at h
    refine runX_law pr oo hr w ν ρ hI hpc hw fun c hm ν' ρ' hag hp' => ?_
    cases hy : c.yes with
    | true =>
      simp only [CLeaf.yes, Bool.and_eq_true, Bool.not_eq_true'] at hy
      refine ⟨hy.1, ?_⟩
      have h2 := hy.2
      split at h2
      · rename_i b hb; subst h2; rw [hb]; simp [SV.den, SB.den]
      · cases h2
    | false =>
      exact hc (c.bad, c.v, c.pc) (by rw [← h]; exact List.mem_map.2 ⟨c, List.mem_filter.2 ⟨hm, by simp [hy]⟩, rfl⟩) ν' ρ' hag hp'

theorem law_auto {P : Program} {G : Type} {O : Orac} {I : In G} (pr : PR P) (oo : OOK P O I) {f : Nat} {args : List SV} {pc : PC} {hp : Heap} (h : restOf (runX P O f args pc hp) = some []) (w : World) (ν : Env G) (ρ : Nat → Nat) (hI : ν.I = I)
    (hpc : pcDen ν pc) (hw : HW (baseOf w) ν ρ hp w) : Calls P f (denL ν ρ args).toArray w fun e w' => e = .returned (.bool true) ∧ Below w.heap.size w w' :=
  law_rest pr oo h w ν ρ hI hpc hw fun c hm => (List.not_mem_nil hm).elim

/-! ### arguments -/
theorem HW.addView {G : Type} {B : Base} {ν : Env G} {ρ : Nat → Nat} {hp : Heap} {w : World} (h : HW B ν ρ hp w) {n : Nat} {k : IntKind} {o : SI} {l : SL} (hn : n ∉ hp.map (·.1)) (hno : ¬ B.own (ρ n)) (h0 : 0 ≤ o.den ν)
    (hc : ∀ j x, (l.den ν)[j]? = some x → B.w0.cell? ⟨ρ n, (o.den ν).toNat + j, none⟩ = some (.int k x)) : HW B ν ρ ((n, .view k o l) :: hp) w := by
  obtain ⟨F, h1, h2, h3⟩ := h.foot
  refine ⟨h.os, h.tape, h.output, h.size, h.kept, by simp only [List.map_cons, List.nodup_cons]; exact ⟨hn, h.nd⟩, fun m => if m = n then fun _ => False else F m, fun m b hm => ?_, fun m b j hm hj => ?_, fun m b m' b' j hm hm' hj hj' => ?_⟩
  · rcases List.mem_cons.1 hm with hm | hm
    · cases hm
      simp only [if_true, BlkDen]
      exact ⟨fun _ hf => hf, hno, h0, hc⟩
    · have : m ≠ n := fun e => hn (List.mem_map.2 ⟨_, hm, e⟩)
      simp only [this, if_false]
      exact h1 m b hm
  · rcases List.mem_cons.1 hm with hm | hm
    · cases hm; simp at hj
    · have : m ≠ n := fun e => hn (List.mem_map.2 ⟨_, hm, e⟩)
      simp only [this, if_false] at hj
      exact h2 m b j hm hj
  · rcases List.mem_cons.1 hm with hm | hm
    · cases hm; simp at hj
    · rcases List.mem_cons.1 hm' with hm' | hm'
      · cases hm'; simp at hj'
      · have e1 : m ≠ n := fun e => hn (List.mem_map.2 ⟨_, hm, e⟩)
        have e2 : m' ≠ n := fun e => hn (List.mem_map.2 ⟨_, hm', e⟩)
        simp only [e1, e2, if_false] at hj hj'
        exact h3 m b m' b' j hm hm' hj hj'

section
variable {H : Type} {enc : TypeId × Value → H} {P : Program} {W : World}

/-- A slice of integers that came in: nil; empty, of whatever address; a row's part. -/
theorem arg_ints {t e : TypeId} {k : IntKind} (ht : P.underlying t = some (.slice e)) (he : P.underlying e = some (.int k)) (hc : P.cellsOf e = 1) {r : Reach} {b0 : Nat} {v : Value} {d : DataW H} {ps : List MemPlace} (hok : Value.okWide P W r b0 t v)
    (h : DataW.Trod enc P W 0 (fun _ => true) true t v d ps) :
    v = .slice none 0 0 ∨ (∃ a, v = .slice (some a) 0 0) ∨ ∃ (g o cap : Nat) (xs : List Int), v = .slice (some ⟨g, o, none⟩) xs.length cap ∧ g < W.heap.size ∧ xs.length ≤ cap ∧ cap ≤ maxLen ∧
      (∀ j x, xs[j]? = some x → W.cell? ⟨g, o + j, none⟩ = some (.int k x)) ∧ ∀ x ∈ xs, (Lit.int k x).wf = true := by
  obtain ⟨a0, l0, c0, rfl⟩ := okWide_slice ht hok
  obtain ⟨fuel, hf⟩ := h
  rcases open_ints ht he hc hf with ⟨hcs, _⟩ | ⟨a, len, cap, zs, hcs, _, hle, hmax, hlen, _, hcell, hwf⟩
  · left; simpa [Value.cells] using hcs
  · right
    simp only [Value.cells, List.cons.injEq, Value.slice.injEq, and_true] at hcs
    obtain ⟨rfl, rfl, rfl⟩ := hcs
    simp only [if_true] at hlen
    rcases Nat.eq_zero_or_pos c0 with h0 | h0
    · left
      have : l0 = 0 := by omega
      subst h0 this
      exact ⟨a, rfl⟩
    · right
      have hc0 := hcell 0 (by omega)
      have hsp : a.spot = none := World.cell?_spot (a := a) (by simpa [Addr.add] using hc0)
      obtain ⟨g, o, sp⟩ := a
      simp only at hsp
      subst hsp
      have hl : (zs.take l0).length = l0 := by rw [List.length_take]; omega
      refine ⟨g, o, c0, zs.take l0, by rw [hl], ?_, by omega, hmax, fun j x hx => ?_, fun x hx => hwf x (List.mem_of_mem_take hx)⟩
      · exact World.block_lt_of_cell? W ⟨g, o, none⟩ (by simpa [Addr.add] using hc0)
      · rw [List.getElem?_take] at hx
        split at hx
        · rename_i hj
          have hj2 : j < zs.length := (List.getElem?_eq_some_iff.1 hx).1
          have := hcell j hj2
          rw [add_none] at this
          rw [this, List.getD_eq_getElem?_getD, hx]
          rfl
        · cases hx
end
end Go.Sy
