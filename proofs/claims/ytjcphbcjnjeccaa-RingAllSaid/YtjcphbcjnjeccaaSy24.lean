import Derived.Test.YtjcphbcjnjeccaaSy23
set_option linter.unusedVariables false
set_option linter.unusedSimpArgs false
namespace Go.Sy
open Go Go.RowKit

/-- Of function g: these leaves, where there are any; else as before. -/
def Orac.withCallF (O : Orac) (g : Nat) (k : Nat → List SV → PC → Heap → Option (List CLeaf)) : Orac :=
  { O with call := fun f lo args pc hp => if Nat.beq f g then (match k lo args pc hp with | some cs => some (some cs) | none => O.call f lo args pc hp) else O.call f lo args pc hp }

theorem withCallF_ok {P : Program} {G : Type} {O : Orac} {I : In G} (oo : OOK P O I) {g : Nat} {k : Nat → List SV → PC → Heap → Option (List CLeaf)} (h : OOK P (O.withCall g k) I) : OOK P (O.withCallF g k) I where
  op := h.op
  call := by
    intro f lo args pc hp cs ho
    unfold Orac.withCallF at ho
    simp only at ho
    split at ho
    · rename_i hb
      split at ho
      · rename_i cs' hk
        refine h.call ?_
        unfold Orac.withCall
        simp only
        rw [if_pos hb]
        rw [hk]
        exact ho
      · exact oo.call ho
    · exact oo.call ho
  loop := oo.loop

section
theorem inM_gl (f : Nat) (g : Gh) (x y : Int) : inM.gl f g x y = g.l := rfl
theorem inM_gb (f : Nat) (g : Gh) (x y : Int) : inM.gb f g x y = g.o := rfl
theorem inM_gi0 (g : Gh) (x y : Int) : inM.gi 0 g x y = g.u := rfl
theorem inM_gi1 (g : Gh) (x y : Int) : inM.gi 1 g x y = g.c := rfl
theorem doX_den {ν : Env Gh} (hI : ν.I = inM) (k c a b : SI) (l : SL) : (doX k c a b l).den ν = doG (k.den ν) (c.den ν) (a.den ν) (b.den ν) (l.den ν) := by simp [doX, SG.den, hI, inM]
def lsX (l : SL) : SG := .app 1 (.var 0) (.var 0) (.lit 0) (.lit 0) (.lit 0) (.lit 0) l
theorem lsX_den {ν : Env Gh} (hI : ν.I = inM) (l : SL) : (lsX l).den ν = ghL (l.den ν) := by simp [lsX, SG.den, hI, inM]
theorem app2_den {ν : Env Gh} (hI : ν.I = inM) (g h : SG) (a b c d : SI) (l : SL) : (SG.app 2 g h a b c d l).den ν = ⟨0, 0, (g.den ν).l == (h.den ν).l, [], []⟩ := by simp [SG.den, hI, inM]
theorem ghL_l (l : List Int) : (ghL l).l = l := rfl
end

/-- An access of an unknown kind. -/
def litKind : List SV → Bool
  | [_, .agg (.int _ (.lit _) :: _)] => true
  | _ => false
def doF (tyM tyR : Nat) (lo : Nat) (args : List SV) (pc : PC) (hp : Heap) : Option (List CLeaf) := if litKind args then none else doK tyM tyR lo args pc hp
theorem doF_ok {P : Program} {O : Orac} (oo : OOK P O inM) {g tyM tyR : Nat} (hc : DoC P g tyM tyR) : OOK P (O.withCallF g (doF tyM tyR)) inM := by
  have h := doK_ok oo hc
  refine withCallF_ok oo ⟨?_, oo.loop, oo.op⟩
  intro f lo args pc hp cs ho
  refine h.call ?_
  revert ho
  unfold Orac.withCall
  simp only
  split
  · intro ho
    unfold doF at ho
    split at ho
    · cases ho
    · exact ho
  · exact id
end Go.Sy
