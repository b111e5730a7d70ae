/- The law coachyardlaw13.LocalAll: what is left to say, of kind 0. -/
import Derived.Test.YtiofchhmdkhfoaaGreatLwXQ
set_option linter.unusedVariables false
set_option linter.unusedSimpArgs false

section
namespace Go.Proofs.YtiofchhmdkhfoaaGreat
open Go Go.Sy Go.RowKit

set_option maxRecDepth 100000 in
theorem lc0_rest {k : Nat} (hk : k < 10) (x : Bool × SV × PC) (hx : x ∈ rstC0 k) (ν : Env Gh) (ρ : Nat → Nat) (hI : ν.I = inM) (h9 : ((ν.l 0).length : Int) ≤ ν.i 9) (hp : pcDen ν x.2.2) : x.1 = false ∧ x.2.1.den ν ρ = .bool true := by
  exfalso
  have C := fitC_den (inPC_den (List.all_eq_true.1 (List.all_eq_true.1 fitC0_all k (List.mem_range.2 hk)) x hx) hp)
  obtain ⟨r0, r1, r2, r3⟩ := C
  have hA0 : (List.drop (ν.l 0).length (List.replicate (ν.l 0).length (0 : Int))) = [] := by simp
  have xs : ∀ (a b c d : SI) (l : SL), (SG.app 40 (.var 0) (.var 0) a b c d l).den ν = ghL (slotsG (l.den ν) (a.den ν) (b.den ν) (c.den ν) (d.den ν) 18446744073709551616 2 1) := fun a b c d l => by simp [SG.den, hI, inM, xga]
  have x1 : ∀ l : SL, (SG.app 1 (.var 0) (.var 0) (.lit 0) (.lit 0) (.lit 0) (.lit 0) l).den ν = ghL (l.den ν) := fun l => lsX_den hI l
  have hsl : ∀ (l : List Int) (a b c d m o s : Int), (slotsG l a b c d m o s).length = d.toNat := slotsG_length
  have w4 : IntKind.i64.wrap (ν.i 10 + 1) = ν.i 10 + 1 := wrapS _ (by omega) (by omega)
  have t0 : ((List.take (ν.i 10 + ν.i 11 + 2 - ν.i 10).toNat (List.drop (ν.i 10).toNat (ν.l 0))).length : Int) = ν.i 11 + 2 := by
    simp only [List.length_take, List.length_drop]; omega
  have t1 : (List.take (ν.i 10 + ν.i 11 + 2 - ν.i 10).toNat (List.drop (ν.i 10).toNat (ν.l 0))).getD (Int.toNat 0) 0 = (ν.l 0).getD (ν.i 10).toNat 0 := by
    simp only [List.getD_eq_getElem?_getD, List.getElem?_take, List.getElem?_drop]
    rw [if_pos (by omega)]; rfl
  have t2 : (List.take (ν.i 10 + ν.i 11 + 2 - ν.i 10).toNat (List.drop (ν.i 10).toNat (ν.l 0))).getD (Int.toNat 1) 0 = (ν.l 0).getD (ν.i 10 + 1).toNat 0 := by
    simp only [List.getD_eq_getElem?_getD, List.getElem?_take, List.getElem?_drop]
    rw [if_pos (by omega), show (ν.i 10).toNat + Int.toNat 1 = (ν.i 10 + 1).toNat by omega]
  have t3 := fun c d => partC 18446744073709551616 (ν.l 0) (ν.i 10) (ν.i 11) c d r2 (by omega)
  have t4 : ν.i 11 + 2 - 2 = ν.i 11 := by omega
  generalize hm : IntKind.i64.wrap (IntKind.u64.wrap ((ν.l 0).getD (ν.i 10 + 1).toNat 0 - (ν.l 0).getD (ν.i 10).toNat 0)) = m
  have hk8 : k = 0 ∨ k = 1 ∨ k = 2 ∨ k = 3 ∨ k = 4 ∨ k = 5 ∨ k = 6 ∨ k = 7 ∨ k = 8 ∨ k = 9 := by omega
  rcases hk8 with rfl | rfl | rfl | rfl | rfl | rfl | rfl | rfl | rfl | rfl
  all_goals simp only [rstC0, outC0, List.getElem?_cons_zero, List.getElem?_cons_succ, Option.getD_some, ouC00, ouC01, ouC02, ouC03, ouC04, ouC05, ouC06, ouC07, ouC08, ouC09, List.map_cons, List.map_nil, List.mem_cons, List.not_mem_nil, or_false] at hx
  repeat' (rcases hx with rfl | hx)
  all_goals (try subst hx)
  all_goals
    simp only [qLc0, qLc1, qLc2, qLc3, qLc4, qLc5, qLc6, qLc7, qLc8, qLc9, qLc10, qLc11, qLc12, qLc13, qLc14, qLc15, qLc16, qLc17, qLc18, pcDen_cons_iff, pcDen_nil_iff, SB.den, Bool.and_eq_true, Bool.or_eq_true, Bool.and_eq_false_iff, Bool.or_eq_false_iff, Bool.not_eq_true', Bool.not_eq_false', beq_iff_eq, beq_eq_false_iff_ne, decide_eq_true_eq, decide_eq_false_iff_not] at hp
    simp only [qLc0, qLc1, qLc2, qLc3, qLc4, qLc5, qLc6, qLc7, qLc8, qLc9, qLc10, qLc11, qLc12, qLc13, qLc14, qLc15, qLc16, qLc17, qLc18, SI.den, SL.den, xs, x1, app2_den hI, lsX_den hI, hI, inM_gl, inM_gb, ghL_l, Int.toNat_natCast, hA0, List.append_nil, w4, t0, t1, t2, t4, t3, hm, hsl, List.length_nil] at hp
    first
      | omega
      | (exfalso; simp at hp; done)
      | (exfalso; simp at hp; omega)
end Go.Proofs.YtiofchhmdkhfoaaGreat
end
