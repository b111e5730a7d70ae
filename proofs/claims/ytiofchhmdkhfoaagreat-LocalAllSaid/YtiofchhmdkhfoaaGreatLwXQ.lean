/- The law coachyardlaw13.LocalAll: what its runs leave to say. -/
import Derived.Test.YtiofchhmdkhfoaaGreatLwLcOa
import Derived.Test.YtiofchhmdkhfoaaGreatLwLcOb
import Derived.Test.YtiofchhmdkhfoaaGreatLwLcOc
import Derived.Test.YtiofchhmdkhfoaaGreatLwLcOd
set_option linter.unusedVariables false
set_option linter.unusedSimpArgs false

section
namespace Go.Proofs.YtiofchhmdkhfoaaGreat
open Go Go.Sy Go.RowKit

def outC0 : List (List CLeaf) := [ouC00, ouC01, ouC02, ouC03, ouC04, ouC05, ouC06, ouC07, ouC08, ouC09]
def rstC0 (k : Nat) : List (Bool × SV × PC) := (((outC0[k]?).getD []).map fun c => (c.bad, c.v, c.pc))
def outC1 : List (List CLeaf) := [ouC10, ouC11, ouC12, ouC13, ouC14, ouC15, ouC16, ouC17, ouC18, ouC19]
def rstC1 (k : Nat) : List (Bool × SV × PC) := (((outC1[k]?).getD []).map fun c => (c.bad, c.v, c.pc))
def rstCx : List (Bool × SV × PC) := ouCx.map fun c => (c.bad, c.v, c.pc)
end Go.Proofs.YtiofchhmdkhfoaaGreat
end

section
namespace Go.Proofs.YtiofchhmdkhfoaaGreat
open Go Go.Sy Go.RowKit

theorem partC (M : Int) (l : List Int) (a b c d : Int) (h1 : 0 ≤ a) (h2 : 0 < b) :
    slotsG (List.take (a + b + 2 - a).toNat (List.drop a.toNat l)) 0 b c d M 2 1 = slotsG l a b c d M 2 1 := by
  unfold slotsG
  refine List.map_congr_left fun j _ => ?_
  have h3 : 0 ≤ (c + (j : Int)) % M % b := Int.emod_nonneg _ (by omega)
  have h4 : (c + (j : Int)) % M % b < b := Int.emod_lt_of_pos _ h2
  generalize (c + (j : Int)) % M % b = r at h3 h4
  simp only [List.getD_eq_getElem?_getD, List.getElem?_take, List.getElem?_drop]
  rw [if_pos (by omega)]
  congr 3
  omega
theorem lcomm (a b : List Int) : (a == b) = (b == a) := by rw [Bool.eq_iff_iff, beq_iff_eq, beq_iff_eq]; exact eq_comm
/-- What is left is left where the row fits. -/
def inPC (q p : PC) : Bool := q.all fun c => p.any fun d => d.1.beq c.1 && bBeq d.2 c.2
theorem inPC_den {q p : PC} (hi : inPC q p = true) {ν : Env Gh} (hp : pcDen ν p) : pcDen ν q := by
  intro c b hm
  have h1 := List.all_eq_true.1 hi (c, b) hm
  obtain ⟨d, hd, h2⟩ := List.any_eq_true.1 h1
  simp only [Bool.and_eq_true] at h2
  rw [← SB.beq_eq h2.1, ← bBeq_eq h2.2]
  exact hp d.1 d.2 hd
theorem fitC0_all : (List.range 10).all (fun k => (rstC0 k).all fun x => inPC fitLc x.2.2) = true := by kernel_rfl
theorem fitC1_all : (List.range 10).all (fun k => (rstC1 k).all fun x => inPC fitLc x.2.2) = true := by kernel_rfl
structure FitC (ν : Env Gh) : Prop where
  room : ν.i 10 + ν.i 11 + 1 < (ν.l 0).length
  top : ν.i 10 < 65535 - ν.i 11
  at0 : 0 ≤ ν.i 10
  sz : 2 ≤ ν.i 11 ∧ ν.i 11 ≤ 256
theorem fitC_den {ν : Env Gh} (C : pcDen ν fitLc) : FitC ν := by
  have a := lt_den (pcAt C 0 rfl)
  have b := lt_den (pcAt C 1 rfl)
  have c := lt_den (pcAt C 2 rfl)
  have d := (powB_den ν (.var 11)).1 (pcAt C 4 rfl)
  have e := d.le
  simp only [SI.den, SL.den, Bool.false_eq_true, iff_false, iff_true] at a b c d e
  exact ⟨by omega, by omega, by omega, e⟩
end Go.Proofs.YtiofchhmdkhfoaaGreat
end
