/- The law coachyardlaw07.DequeSteps: its state. -/
import Derived.Test.YtlmenjenkpnacaaLwXC
import Derived.Test.YtlmenjenkpnacaaLwXM
set_option linter.unusedVariables false
set_option linter.unusedSimpArgs false

section
namespace Go.Proofs.Ytlmenjenkpnacaa
open Go Go.Sy Go.RowKit

def fS7 : Nat := 10
def argsS7 (v : SV) : List SV := [.agg [.int .i64 (.var 10), .int .i64 (.var 11)], .int .u64 (.var 12), v]
def pcS7 : PC := [(.lt (.var 7) (.lit 0), false), (.lt (.var 8) (.lit 0), false), (.gb 0 (.app 83 (.var 1) (.var 0) (.lit 0) (.lit 0) (.lit 0) (.lit 0) .nil) (.lit 0) (.lit 0), true)]
def hpS7 : Heap := [(1, tldT)]
def oS7 (P : Program) : Orac :=
  ((((((((((oL7 P).withCall fA7 trueK).withCallF fR7 (sumK P tR7 shS7R)).withCallF f7S (kSn7 P 0 ouSn70)).withCallF f7S (kSn7 P 1 ouSn71)).withCallF f7S (kSn7 P 2 ouSn72)).withCallF f7S (kSn7 P 3 ouSn73)).withCallF fLk (sumK P (tLk7 0) shLk70)).withCallF fLk (sumK P (tLk7 1) shLk71)).withCallF fLk (sumK P (tLk7 2) shLk72)).withCallF fLk (sumK P (tLk7 3) shLk73) |>.pruned P |>.withOp (opAppN P)
/-! the ways in which it may begin -/
def z1 : SB := .lt (.var 11) (.lit 2)
def z2 : SB := .lt (.lit 256) (.var 11)
def z3 : SB := powB (.var 11)
def z3b : SB := .eq (.bits 0 .i64 (.var 11) (.sub (.var 11) (.lit 1))) (.lit 0)
def z4 : SB := .lt (.var 10) (.lit 0)
def z5 : SB := topR 1 (.var 10) (.var 11)
def vS7 : PC := [(.lt (.var 12) (.lit 0), false), (.lt (.var 12) (.lit 18446744073709551616), true)]
def powS7 : PC := (z3b, true) :: (z3, true) :: (z2, false) :: (z1, false) :: vS7
def wayS7 : Nat → PC
  | 0 => (z3, false) :: (z1, true) :: vS7
  | 1 => (z3, false) :: (z2, true) :: (z1, false) :: vS7
  | 2 => (z3b, false) :: (z3, false) :: (z2, false) :: (z1, false) :: vS7
  | 3 => (z4, true) :: powS7
  | 4 => (z5, false) :: (z4, false) :: powS7
  | _ => (z5, true) :: (z4, false) :: powS7
theorem wayS7_den {G : Type} (ν : Env G) (h0 : 0 ≤ ν.i 12) (h1 : ν.i 12 < 18446744073709551616) : ∃ k, k < 6 ∧ pcDen ν (wayS7 k) := by
  have t : ∀ c : SB, c.den ν = true ∨ c.den ν = false := fun c => by cases c.den ν <;> simp
  have hv : pcDen ν vS7 := pcDen_cons (lt_of (by simp only [SI.den, Bool.false_eq_true, iff_false]; omega)) (pcDen_one (lt_of (by simp only [SI.den, iff_true]; omega)))
  have np : ¬ Pow (ν.i 11) → z3.den ν = false := fun h => by
    rcases t z3 with p | p
    · exact (h ((powB_den ν (.var 11)).1 p)).elim
    · exact p
  rcases t z1 with a | a
  · exact ⟨0, by decide, pcDen_cons (np fun h => by have := h.le; simp only [z1, SB.den, decide_eq_true_eq] at a; simp only [SI.den] at a; omega) (pcDen_cons a hv)⟩
  rcases t z2 with b | b
  · exact ⟨1, by decide, pcDen_cons (np fun h => by have := h.le; simp only [z2, SB.den, decide_eq_true_eq] at b; simp only [SI.den] at b; omega) (pcDen_cons b (pcDen_cons a hv))⟩
  have a' := a
  have b' := b
  simp only [z1, SB.den, decide_eq_false_iff_not] at a'
  simp only [z2, SB.den, decide_eq_false_iff_not] at b'
  simp only [SI.den] at a' b'
  have hbits : z3b.den ν = true ↔ Pow (ν.i 11) := by
    rw [← bits_iff _ (by omega) (by omega), wrapS _ (by omega) (by omega)]
    simp [z3b, SB.den, SI.den]
  rcases t z3 with c | c
  · have hP : Pow (ν.i 11) := (powB_den ν (.var 11)).1 c
    have f : pcDen ν powS7 := pcDen_cons (hbits.2 hP) (pcDen_cons c (pcDen_cons b (pcDen_cons a hv)))
    rcases t z4 with d | d
    · exact ⟨3, by decide, pcDen_cons d f⟩
    rcases t z5 with e | e
    · exact ⟨5, by decide, pcDen_cons e (pcDen_cons d f)⟩
    · exact ⟨4, by decide, pcDen_cons e (pcDen_cons d f)⟩
  · refine ⟨2, by decide, pcDen_cons ?_ (pcDen_cons c (pcDen_cons b (pcDen_cons a hv)))⟩
    rcases t z3b with d | d
    · have := (powB_den ν (.var 11)).2 (hbits.1 d)
      exact absurd (this.symm.trans c) (by simp)
    · exact d
end Go.Proofs.Ytlmenjenkpnacaa
end
