/- A definitions' text and the text that uses it. -/
import Derived.Test.YtjcphbcjnjeccaaSy38
import Derived.Test.YtjcphbcjnjeccaaLwBase
set_option linter.unusedVariables false
set_option linter.unusedSimpArgs false
namespace Go.Proofs.Ytjcphbcjnjeccaa
open Go Go.Sy Go.RowKit

def tSame : Tmpl := ⟨[.sl 0 (.var 0) (.len (.var 0)) (.var 1), .sl 1 (.var 2) (.len (.var 1)) (.var 3)], [(.lt (.var 0) (.lit 0), false), (.lt (.var 2) (.lit 0), false)], [(0, .view .u64 (.var 0) (.var 0)), (1, .view .u64 (.var 2) (.var 1))]⟩
def nSame : Nat := nmAt 4
def eSame (P : Program) : Leaf := capL P noOrac 20 4 tSame.args tSame.pc tSame.hp
def hSame (P : Program) : Leaf := hdFrom 6 (hdI nSame 5 0 (eSame P))
def pSame : PC := (.lt (.var (nSame + 0)) (.lit 0), false) :: (.eq (.len (.var 0)) (.len (.var 1)), true) :: tSame.pc
def gSame (P : Program) : List Tgt := [⟨.exit 0, (hSame P).fr, tSame.hp, [(eqX (.var 0) (.var 1), true)]⟩, ⟨.ret, deadFrom 5 (hSame P).fr, tSame.hp, [(eqX (.var 0) (.var 1), false)]⟩]
def bSame : PC := [(.eq (.len (.var 0)) (.len (.var 1)), false), (.lt (.var 0) (.lit 0), true), (.lt (.var 2) (.lit 0), true), (.lt (.lit 9223372036854775807) (.len (.var 0)), true)]
def sSame (P : Program) : Option (List SumT) := (codeX P noOrac LO7 SZ7 20 6000 0 (loopAt P 20 4) (hSame P).fr pSame tSame.hp).bind (sumsT P nSame LO7 SZ7 (⟨.normal, (hSame P).fr, tSame.hp, pSame⟩ :: gSame P))
def oSame (P : Program) : Orac := noOrac.withLoop 20 4 nSame (eSame P).fr tSame.hp (mkM nSame (gSame P) bSame)
end Go.Proofs.Ytjcphbcjnjeccaa
namespace Go.Proofs.Ytjcphbcjnjeccaa
open Go Go.Sy Go.RowKit

def sumsSame : List SumT := [
  ⟨.bad, 0, ⟨[], [], [], [], [], [], [], []⟩, [((.lt (.var (nSame + 0)) (.len (.var 1))), false), ((.lt (.var (nSame + 0)) (.len (.var 0))), true), ((.lt (.var (nSame + 0)) (.lit 0)), false), ((.eq (.len (.var 0)) (.len (.var 1))), true), ((.lt (.var 0) (.lit 0)), false), ((.lt (.var 2) (.lit 0)), false)]⟩,
  ⟨.ret, 1, ⟨[], [], [], [], [], [], [], []⟩, [((.eq (.nth (.var 0) (.var (nSame + 0))) (.nth (.var 1) (.var (nSame + 0)))), false), ((.lt (.var (nSame + 0)) (.len (.var 1))), true), ((.lt (.var (nSame + 0)) (.len (.var 0))), true), ((.lt (.var (nSame + 0)) (.lit 0)), false), ((.eq (.len (.var 0)) (.len (.var 1))), true), ((.lt (.var 0) (.lit 0)), false), ((.lt (.var 2) (.lit 0)), false)]⟩,
  ⟨.normal, 0, ⟨[], [(0, (.wrap .i64 (.add (.var (nSame + 0)) (.lit 1))))], [], [], [], [], [], []⟩, [((.eq (.nth (.var 0) (.var (nSame + 0))) (.nth (.var 1) (.var (nSame + 0)))), true), ((.lt (.var (nSame + 0)) (.len (.var 1))), true), ((.lt (.var (nSame + 0)) (.len (.var 0))), true), ((.lt (.var (nSame + 0)) (.lit 0)), false), ((.eq (.len (.var 0)) (.len (.var 1))), true), ((.lt (.var 0) (.lit 0)), false), ((.lt (.var 2) (.lit 0)), false)]⟩,
  ⟨.exit 0, 0, ⟨[], [(0, (.var (nSame + 0)))], [], [], [], [], [], []⟩, [((.lt (.var (nSame + 0)) (.len (.var 0))), false), ((.lt (.var (nSame + 0)) (.lit 0)), false), ((.eq (.len (.var 0)) (.len (.var 1))), true), ((.lt (.var 0) (.lit 0)), false), ((.lt (.var 2) (.lit 0)), false)]⟩]
def startSame : Mt := ⟨[], [(0, (.lit 0))], [], [], [], [], [], []⟩
def ouSame : List CLeaf := [
  ⟨false, (.bool (.lit false)), [((.eq (.len (.var 0)) (.len (.var 1))), false), ((.lt (.var 0) (.lit 0)), false), ((.lt (.var 2) (.lit 0)), false)], [(0, (.view .u64 (.var 0) (.var 0))), (1, (.view .u64 (.var 2) (.var 1)))]⟩,
  ⟨false, (.bool (.lit true)), [((.gb 0 (.app 2 (.app 1 (.var 0) (.var 0) (.lit 0) (.lit 0) (.lit 0) (.lit 0) (.var 0)) (.app 1 (.var 0) (.var 0) (.lit 0) (.lit 0) (.lit 0) (.lit 0) (.var 1)) (.lit 0) (.lit 0) (.lit 0) (.lit 0) .nil) (.lit 0) (.lit 0)), true), ((.eq (.len (.var 0)) (.len (.var 1))), true), ((.lt (.var 0) (.lit 0)), false), ((.lt (.var 2) (.lit 0)), false)], [(0, (.view .u64 (.var 0) (.var 0))), (1, (.view .u64 (.var 2) (.var 1)))]⟩,
  ⟨false, (.bool (.lit false)), [((.gb 0 (.app 2 (.app 1 (.var 0) (.var 0) (.lit 0) (.lit 0) (.lit 0) (.lit 0) (.var 0)) (.app 1 (.var 0) (.var 0) (.lit 0) (.lit 0) (.lit 0) (.lit 0) (.var 1)) (.lit 0) (.lit 0) (.lit 0) (.lit 0) .nil) (.lit 0) (.lit 0)), false), ((.eq (.len (.var 0)) (.len (.var 1))), true), ((.lt (.var 0) (.lit 0)), false), ((.lt (.var 2) (.lit 0)), false)], [(0, (.view .u64 (.var 0) (.var 0))), (1, (.view .u64 (.var 2) (.var 1)))]⟩,
  ⟨true, (.tup []), [((.lt (.lit 9223372036854775807) (.len (.var 0))), true), ((.eq (.len (.var 0)) (.len (.var 1))), true), ((.lt (.var 0) (.lit 0)), false), ((.lt (.var 2) (.lit 0)), false)], []⟩]
theorem bodySame : sSame Try.prog = some sumsSame := by kernel_rfl
theorem stSame : mAll nSame 0 0 Try.prog (eSame Try.prog).fr tSame.hp (hSame Try.prog).fr tSame.hp = some startSame := by kernel_rfl
theorem oneSame : (loopsAt Try.prog 20 4).length = 1 := by kernel_rfl
theorem runSame : runX Try.prog (oSame Try.prog) 20 tSame.args tSame.pc tSame.hp = some ouSame := by kernel_rfl
theorem wrapS (x : Int) (h1 : -9223372036854775808 ≤ x) (h2 : x ≤ 9223372036854775807) : IntKind.i64.wrap x = x := by
  rw [IntKind.wrap_i64]; omega
theorem list_ext {xs ys : List Int} (hl : xs.length = ys.length) (h : ∀ j : Nat, (j : Int) < xs.length → xs.getD j 0 = ys.getD j 0) : xs = ys := by
  refine List.ext_getElem hl fun j h1 h2 => ?_
  have := h j (by omega)
  simpa [List.getD_eq_getElem?_getD, h1, h2] using this
attribute [local irreducible] nmAt
theorem oSame_ok : OOK Try.prog (oSame Try.prog) inM := by
  have hb : ∀ {ν : Env Gh}, (∀ x ∈ bSame, x.1.den ν ≠ x.2) → (ν.l 0).length = (ν.l 1).length ∧ 0 ≤ ν.i 0 ∧ 0 ≤ ν.i 2 ∧ (ν.l 0).length ≤ 9223372036854775807 := by
    intro ν h
    simp only [bSame, bads_cons, SB.den, Bool.not_true, Bool.not_false, decide_eq_true_eq, decide_eq_false_iff_not, beq_iff_eq] at h
    simp only [SI.den, SL.den] at h
    omega
  have hp : ∀ {ν : Env Gh} {x : Vals Gh}, (∀ x ∈ bSame, x.1.den ν ≠ x.2) → 0 ≤ x.i 0 → pcDen (ν.at nSame x) pSame := by
    intro ν x h h0
    have := hb h
    have rf : RF nSame ν x (ν.at nSame x) := RF.self rfl
    simp only [pSame, tSame, pcDen_cons_iff, pcDen_nil_iff, and_true, SB.den, decide_eq_false_iff_not, beq_iff_eq]
    simp only [SI.den, SL.den, rf.i 0 (by decide), rf.io 0 (by decide), rf.io 2 (by decide), rf.lo 0 (by decide), rf.lo 1 (by decide)]
    omega
  refine loopT_ok pr noOrac_ok (rfl : nSame = nmAt 4) (by decide +kernel) oneSame (ghL []) bodySame stSame
    (fun ν x => 0 ≤ x.i 0 ∧ x.i 0 ≤ (ν.l 0).length ∧ ∀ j : Nat, (j : Int) < x.i 0 → (ν.l 0).getD j 0 = (ν.l 1).getD j 0) (fun ν x => ((ν.l 0).length - x.i 0).toNat) ?_ ?_ noOrac_ok
  · intro ν hI h
    have := hb h
    refine ⟨⟨by simp [startSame, Mt.vals, lkp, SI.den], by simp [startSame, Mt.vals, lkp, SI.den], fun j hj => ?_⟩, hp h (by simp [startSame, Mt.vals, lkp, SI.den]), by constructor <;> simp [startSame]⟩
    simp [startSame, Mt.vals, lkp, SI.den] at hj
    omega
  · intro t ht ν x ν2 hI h hJ _ rf hpc
    have := hb h
    obtain ⟨j1, j2, j3⟩ := hJ
    simp only [sumsSame, List.mem_cons, List.not_mem_nil, or_false] at ht
    rcases ht with rfl | rfl | rfl | rfl
    all_goals
      simp only [pcDen_cons_iff, SB.den, decide_eq_true_eq, decide_eq_false_iff_not, beq_iff_eq, beq_eq_false_iff_ne] at hpc
      simp only [SI.den, SL.den, rf.i 0 (by decide), rf.io 0 (by decide), rf.io 2 (by decide), rf.lo 0 (by decide), rf.lo 1 (by decide)] at hpc
    · show False
      omega
    · refine ⟨fun g hg => ?_, by constructor <;> simp⟩
      cases hg
      refine pcDen_one ?_
      have rf3 : ∀ y, RF nSame ν y (ν.at nSame y) := fun y => RF.self rfl
      rw [eqX_den ((rf3 _).I.trans hI)]
      simp only [SL.den, beq_eq_false_iff_ne, (rf3 _).lo 0 (by decide), (rf3 _).lo 1 (by decide)]
      intro e
      exact hpc.1 (by rw [e])
    · have e : (Mt.vals ⟨[], [(0, (.wrap .i64 (.add (.var (nSame + 0)) (.lit 1))))], [], [], [], [], [], []⟩ (ghL []) ν2).i 0 = x.i 0 + 1 := by
        simp only [Mt.vals, lkp, Nat.beq_refl, if_true, SI.den, rf.i 0 (by decide)]
        rw [wrapS _ (by omega) (by omega)]
      refine ⟨⟨by rw [e]; omega, by rw [e]; omega, fun j hj => ?_⟩, hp h (by rw [e]; omega), by rw [e]; omega, by constructor <;> simp⟩
      rw [e] at hj
      rcases Int.lt_or_le (j : Int) (x.i 0) with hlt | hlt
      · exact j3 j hlt
      · have e2 : (x.i 0).toNat = j := by omega
        have := hpc.1
        rwa [e2] at this
    · refine ⟨fun g hg => ?_, by constructor <;> simp⟩
      cases hg
      refine pcDen_one ?_
      have rf3 : ∀ y, RF nSame ν y (ν.at nSame y) := fun y => RF.self rfl
      rw [eqX_den ((rf3 _).I.trans hI)]
      simp only [SL.den, beq_iff_eq, (rf3 _).lo 0 (by decide), (rf3 _).lo 1 (by decide)]
      exact list_ext (by omega) (fun j hj => j3 j (by omega))
def kSame (P : Program) := sumK P tSame ouSame
theorem same_ok {O : Orac} (oo : OOK Try.prog O inM) : OOK Try.prog (O.withCallF 20 (kSame Try.prog)) inM := withCallF_ok oo (sum_ok pr oSame_ok runSame oo)
end Go.Proofs.Ytjcphbcjnjeccaa
