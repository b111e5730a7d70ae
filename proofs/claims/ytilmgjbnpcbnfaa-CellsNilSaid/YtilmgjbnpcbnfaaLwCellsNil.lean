/- 'coachyardlaw03.CellsNil' returns true for every access and every list, and leaves all that was there as it was. -/
import Derived.Test.YtilmgjbnpcbnfaaLwArgs
import Derived.Test.YtilmgjbnpcbnfaaRows
set_option linter.unusedVariables false
set_option linter.unusedSimpArgs false
namespace Go.Proofs.Ytilmgjbnpcbnfaa
open Go.ChangeShapes Go.WideShapes Go.ChangeAt Go.RowKit Go.Sy

def accX : SV := .agg [.int .i64 (.var 0), .int .i64 (.var 1), .int .u64 (.var 2), .int .u64 (.var 3)]
def accI (k c a b : Int) (o n : Int) : Nat → Int
  | 0 => k | 1 => c | 2 => a | 3 => b | 4 => o | _ => n

theorem run7n : restOf (runX Try.prog noOrac 7 [accX, .nilSl] [] []) = some [] := by kernel_rfl
theorem run7e : restOf (runX Try.prog noOrac 7 [accX, .emp 0] [] []) = some [] := by kernel_rfl
theorem run7v : restOf (runX Try.prog noOrac 7 [accX, .sl 0 (.var 4) (.len (.var 0)) (.var 5)] [(.lt (.var 4) (.lit 0), false)] [(0, .view .u64 (.var 4) (.var 0))]) = some [] := by kernel_rfl

set_option maxRecDepth 100000 in
theorem cellsNil_lifted (os : Os) (started : os.Started) (H : Type) (enc : TypeId × Value → H) :
    ReturnsInHanded {} Try.checked os 7 .any (Rows.cellsNilSpec.pre6 enc Try.prog Try.f7 Rows.cellsNilRow.domain false) (Rows.cellsNilSpec.post enc Try.prog Try.f7 false true false false) := by
  refine law_lifted (C := Try.checked) facts own started (by kernel_rfl) Try.func7
    (ChangeSpec.witness6 (enc := enc) (C := Try.checked) false ⟨#[], #[.agg #[.int .i64 0, .int .i64 0, .int .u64 0, .int .u64 0], .slice none 0 0], []⟩ 8 (by kernel_rfl) (by kernel_rfl) (by kernel_rfl) (by kernel_rfl)) rfl (fun ds h => ?_) Try.underlying4 (by kernel_rfl) (by kernel_rfl) fun W base args ds p hval hA hlt => ?_
  · rw [Try.params7] at h
    match ds, h with
    | [d, e], _ => rfl
  rw [Try.params7] at hA hval
  obtain ⟨v0, v1, d0, d1, p0, p1, rfl, rfl, rfl, h0, h1⟩ := trodAll_two hA
  obtain ⟨k, c, a, b, rfl, _⟩ := arg_access (hval 0 55 v0 rfl rfl) h0
  rcases arg_ints Try.underlying50 Try.underlying51 cells51 (hval 1 50 v1 rfl rfl) h1 with rfl | ⟨ad, rfl⟩ | ⟨g, o, cap, xs, rfl, hg, _, _, hcell, _⟩
  · exact law_auto pr noOrac_ok run7n W (envOf (accI k c a b 0 0) (fun _ => false) (fun _ => []) noAddr) (fun _ => 0) rfl (pcDen_nil _) (HW.empty _ _ _)
  · exact law_auto pr noOrac_ok run7e W (envOf (accI k c a b 0 0) (fun _ => false) (fun _ => []) (fun _ => ad)) (fun _ => 0) rfl (pcDen_nil _) (HW.empty _ _ _)
  · exact law_auto pr noOrac_ok run7v W (envOf (accI k c a b o cap) (fun _ => false) (fun _ => xs) noAddr) (fun _ => g) rfl (pcDen_one (by simp [SB.den, SI.den, envOf, accI]))
      ((HW.empty _ _ _).addView (by simp) (by rw [baseOf_own]; omega) (by simp [SI.den, envOf, accI]) (by simpa [SI.den, SL.den, envOf, accI, baseOf] using hcell))

theorem cellsNil_joined : joinedFacts Try.prog 7 Try.f7 Rows.cellsNilSpec Rows.cellsNilRow = true :=
  joined_of facts (by kernel_rfl) ⟨rfl, rfl, rfl, rfl, rfl, rfl⟩ (by kernel_rfl) (by kernel_rfl) (by kernel_rfl) (by kernel_rfl) (by kernel_rfl) (by kernel_rfl) (by kernel_rfl) ⟨by kernel_rfl, by kernel_rfl⟩ (by kernel_rfl)

theorem cellsNil_holds : Rows.CellsNilSaid :=
  OpenClaim.holds_of_wide 7 Try.f7 rfl rfl rfl rfl rfl rfl rfl ⟨rfl, rfl, rfl, rfl, rfl⟩ rfl rfl rfl rfl rfl (by kernel_rfl) Try.func7 cellsNil_joined
    (of_decide_eq_true (by kernel_rfl)) (by unfold Func.isWrapper; first | (rw [if_pos (by decide +kernel)]; kernel_rfl) | (rw [if_neg (by decide +kernel)]; exact ⟨rfl, rfl⟩))
    (fun os started H enc _ => cellsNil_lifted os started H enc)
#print axioms cellsNil_holds
end Go.Proofs.Ytilmgjbnpcbnfaa
