/- The law coachyardlaw32.LaneSteps: its state. -/
import Derived.Test.YtlmenjenkpnacaaLwXC
import Derived.Test.YtlmenjenkpnacaaLwXO
set_option linter.unusedVariables false
set_option linter.unusedSimpArgs false

section
namespace Go.Proofs.Ytlmenjenkpnacaa
open Go Go.Sy Go.RowKit

def fS3 : Nat := 8
def argsS3 (v : SV) : List SV := [.agg [.int .i64 (.var 10), .int .i64 (.var 11)], .int .u64 (.var 12), v]
def pcS3 : PC := [(.lt (.var 7) (.lit 0), false), (.lt (.var 8) (.lit 0), false), (.gb 0 (.app 83 (.var 1) (.var 0) (.lit 0) (.lit 0) (.lit 0) (.lit 0) .nil) (.lit 0) (.lit 0), true)]
def hpS3 : Heap := [(1, tldT)]
def oS3 (P : Program) : Orac :=
  ((((((((((oL3 P).withCall fA32 trueK).withCallF fR32 (sumK P tR32 shS3R)).withCallF f32S (kSn32 P false false ouSn32tn)).withCallF f32S (kSn32 P false true shSn32td)).withCallF f32S (kSn32 P true false ouSn32pn)).withCallF f32S (kSn32 P true true shSn32pd)).withCallF fLk (sumK P (tLk32 false false) shLk32tn)).withCallF fLk (sumK P (tLk32 false true) shLk32td)).withCallF fLk (sumK P (tLk32 true false) shLk32pn)).pruned P |>.withOp (opAppN P)
/-! the ways in which it may begin -/
def s1 : SB := .lt (.var 11) (.lit 2)
def s2 : SB := .lt (.lit 256) (.var 11)
def s3 : SB := powB (.var 11)
def s3b : SB := .eq (.bits 0 .i64 (.var 11) (.sub (.var 11) (.lit 1))) (.lit 0)
def s4 : SB := .lt (.var 10) (.lit 0)
def s5 : SB := topR 2 (.var 10) (.var 11)
def vS3 : PC := [(.lt (.var 12) (.lit 0), false), (.lt (.var 12) (.lit 18446744073709551616), true)]
def powS3 : PC := (s3b, true) :: (s3, true) :: (s2, false) :: (s1, false) :: vS3
def wayS3 : Nat → PC
  | 0 => (s3, false) :: (s1, true) :: vS3
  | 1 => (s3, false) :: (s2, true) :: (s1, false) :: vS3
  | 2 => (s3b, false) :: (s3, false) :: (s2, false) :: (s1, false) :: vS3
  | 3 => (s4, true) :: powS3
  | 4 => (s5, false) :: (s4, false) :: powS3
  | _ => (s5, true) :: (s4, false) :: powS3
theorem wayS3_den {G : Type} (ν : Env G) (h0 : 0 ≤ ν.i 12) (h1 : ν.i 12 < 18446744073709551616) : ∃ k, k < 6 ∧ pcDen ν (wayS3 k) := by
  have t : ∀ c : SB, c.den ν = true ∨ c.den ν = false := fun c => by cases c.den ν <;> simp
  have hv : pcDen ν vS3 := pcDen_cons (lt_of (by simp only [SI.den, Bool.false_eq_true, iff_false]; omega)) (pcDen_one (lt_of (by simp only [SI.den, iff_true]; omega)))
  have np : ¬ Pow (ν.i 11) → s3.den ν = false := fun h => by
    rcases t s3 with p | p
    · exact (h ((powB_den ν (.var 11)).1 p)).elim
    · exact p
  rcases t s1 with a | a
  · exact ⟨0, by decide, pcDen_cons (np fun h => by have := h.le; simp only [s1, SB.den, decide_eq_true_eq] at a; simp only [SI.den] at a; omega) (pcDen_cons a hv)⟩
  rcases t s2 with b | b
  · exact ⟨1, by decide, pcDen_cons (np fun h => by have := h.le; simp only [s2, SB.den, decide_eq_true_eq] at b; simp only [SI.den] at b; omega) (pcDen_cons b (pcDen_cons a hv))⟩
  have a' := a
  have b' := b
  simp only [s1, SB.den, decide_eq_false_iff_not] at a'
  simp only [s2, SB.den, decide_eq_false_iff_not] at b'
  simp only [SI.den] at a' b'
  have hbits : s3b.den ν = true ↔ Pow (ν.i 11) := by
    rw [← bits_iff _ (by omega) (by omega), wrapS _ (by omega) (by omega)]
    simp [s3b, SB.den, SI.den]
  rcases t s3 with c | c
  · have hP : Pow (ν.i 11) := (powB_den ν (.var 11)).1 c
    have f : pcDen ν powS3 := pcDen_cons (hbits.2 hP) (pcDen_cons c (pcDen_cons b (pcDen_cons a hv)))
    rcases t s4 with d | d
    · exact ⟨3, by decide, pcDen_cons d f⟩
    rcases t s5 with e | e
    · exact ⟨5, by decide, pcDen_cons e (pcDen_cons d f)⟩
    · exact ⟨4, by decide, pcDen_cons e (pcDen_cons d f)⟩
  · refine ⟨2, by decide, pcDen_cons ?_ (pcDen_cons c (pcDen_cons b (pcDen_cons a hv)))⟩
    rcases t s3b with d | d
    · have := (powB_den ν (.var 11)).2 (hbits.1 d)
      exact absurd (this.symm.trans c) (by simp)
    · exact d
end Go.Proofs.Ytlmenjenkpnacaa
end
