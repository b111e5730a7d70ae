import Derived.Test.YtjcphbcjnjeccaaSy20
set_option linter.unusedVariables false
set_option linter.unusedSimpArgs false
namespace Go.Sy
open Go Go.RowKit

/-! ### a loop's entry, got by a run -/
def capt (O : Orac) (f s : Nat) : Orac := { O with loop := fun g t nm fr pc hp => if Nat.beq f g && Nat.beq s t then some (some [⟨.exit 777, fr, pc, hp⟩]) else O.loop g t nm fr pc hp }
def is777 (L : Leaf) : Bool := match L.ex with | .exit i => Nat.beq i 777 | _ => false
/-- The frame, the path and the heap as the loop at site s of function f is first reached. -/
def capL (P : Program) (O : Orac) (f s : Nat) (args : List SV) (pc : PC) (hp : Heap) : Leaf := match P.funcs[f]? with
  | some fn => match pieceX P (capt O f s) f (bodyOf P f) (args ++ List.replicate (fn.ntmps - args.length) (.tup [])) pc hp with
    | some ls => (ls.find? is777).getD ⟨.bad, [], [], []⟩
    | _ => ⟨.bad, [], [], []⟩
  | none => ⟨.bad, [], [], []⟩
/-- All of them. -/
def capAll (P : Program) (O : Orac) (f s : Nat) (args : List SV) (pc : PC) (hp : Heap) : List Leaf := match P.funcs[f]? with
  | some fn => match pieceX P (capt O f s) f (bodyOf P f) (args ++ List.replicate (fn.ntmps - args.length) (.tup [])) pc hp with
    | some ls => ls.filter is777
    | _ => []
  | none => []
def capN (n : Nat) (l : List Leaf) : Leaf := (l[n]?).getD ⟨.bad, [], [], []⟩
/-- Slots that are not laid: nothing is said. -/
def deadUndef : List SV → List SV
  | [] => []
  | .tup [] :: r => .dead :: deadUndef r
  | v :: r => v :: deadUndef r
/-- A slice's row, with another list. -/
def setRow (v : SV) (l : SL) (hp : Heap) : Heap := match v with
  | .sl b _ _ _ => match hget b hp with
    | some (.row k _ c t) => hset b (.row k l c t) hp
    | _ => hp
  | _ => hp
/-- From slot n on: nothing is said. -/
def deadFrom (n : Nat) (l : List SV) : List SV := l.take n ++ List.replicate (l.length - n) .dead
/-- The name of a loop at site s, in a top-level run. -/
def nmAt (s : Nat) : Nat := LO + (s * 256 + 255) * (LO / K0)

theorem out_small {s m : Nat} (h : m < 1000) : out (nmAt s) (nmAt s + 64) m = true := by
  unfold out nmAt
  have : (1000 : Nat) ≤ LO := by decide +kernel
  have h2 : LO ≤ LO + (s * 256 + 255) * (LO / K0) := Nat.le_add_right _ _
  simp only [Bool.or_eq_true, Nat.ble_eq]
  omega
theorem out_big {m : Nat} (h : m < 1000) : out (2^700) (2^700 + 2^650) m = true := by
  unfold out
  have : (1000 : Nat) ≤ 2^700 := by decide +kernel
  simp only [Bool.or_eq_true, Nat.ble_eq]
  omega
theorem out_LO {m : Nat} (h : m < 1000) : out LO (LO + LO) m = true := by
  unfold out
  have : (1000 : Nat) ≤ LO := by decide +kernel
  simp only [Bool.or_eq_true, Nat.ble_eq]
  omega
theorem out_nm {s j : Nat} (hs : Nat.ble s 100000 = true) (h : j < 64) : out (2^700) (2^700 + 2^650) (nmAt s + j) = true := by
  unfold out nmAt
  have hs := Nat.le_of_ble_eq_true hs
  have h1 : (s * 256 + 255) * (LO / K0) ≤ 25600255 * (LO / K0) := Nat.mul_le_mul_right _ (by omega)
  have h2 : LO + 25600255 * (LO / K0) + 64 ≤ 2^700 := by decide +kernel
  simp only [Bool.or_eq_true, Nat.ble_eq]
  omega

section
variable {P : Program} {G : Type} {O : Orac} {I : In G}
/-- A call that changes nothing old, and hands back what is said; the leaf may say more of the path. -/
theorem pure_call' {g : Nat} {args : List SV} {v : SV} {hp : Heap} {lo sz : Nat} {B : Base} {ν : Env G} {ρ : Nat → Nat} {w : World} {R : Ending → World → Prop} {pc : PC} {cs : List CLeaf} (hpc : pcDen ν pc) (hw : HW B ν ρ hp w)
    (hc : ∀ c ∈ cs, ∀ ν' ρ' w', Agree lo (lo + sz) ν ν' ρ ρ' → pcDen ν' c.pc → c.bad = false ∧ (HW B ν' ρ' c.hp w' → R (.returned (c.v.den ν' ρ')) w')) (hm : (⟨false, v, pc, hp⟩ : CLeaf) ∈ cs)
    (h : Calls P g (denL ν ρ args).toArray w fun e w' => e = .returned (v.den ν ρ) ∧ Below w.heap.size w w') : Calls P g (denL ν ρ args).toArray w R :=
  h.mono fun e w' ⟨he, hb⟩ => by
    subst he
    exact (hc _ hm ν ρ w' (Agree.refl _ _ _ _) hpc).2 (hw.later hb)
end
end Go.Sy
