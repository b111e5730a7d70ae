/- 'coachyardlaw06.ArenaAlone' returns true for every number and every list of deeds, and leaves all that was there as it was. -/
import Derived.Test.YtoogepoalbhlhaaLwXE
import Derived.Test.YtoogepoalbhlhaaLwXA
import Derived.Test.YtoogepoalbhlhaaSyE
import Derived.Test.YtoogepoalbhlhaaRows
set_option linter.unusedVariables false
set_option linter.unusedSimpArgs false

section
namespace Go.Proofs.Ytoogepoalbhlhaa
open Go.ChangeShapes Go.WideShapes Go.ChangeAt Go.RowKit Go.Sy

theorem cellsU8 : Try.prog.cellsOf 5 = 1 := by kernel_rfl
def envG (i : Nat → Int) (l : Nat → List Int) : Env Gh := ⟨inM, fun _ => ghL [], i, fun _ => false, fun _ => .bool false, l, noAddr, fun _ => rfl⟩
def aaI (n o cap : Int) : Nat → Int | 11 => n | 8 => o | 9 => cap | _ => 0
theorem wf_u8 {x : Int} (h : (Lit.int .u8 x).wf = true) : 0 ≤ x ∧ x ≤ 255 := by
  simp only [Lit.wf, Bool.and_eq_true, decide_eq_true_eq, IntKind.min, IntKind.max, IntKind.bits, IntKind.signed] at h
  simpa using h

set_option maxRecDepth 100000 in
theorem arenaAlone_lifted (os : Os) (started : os.Started) (H : Type) (enc : TypeId × Value → H) :
    ReturnsInHanded {} Try.checked os 8 .any (Rows.arenaAloneSpec.pre6 enc Try.prog Try.f8 Rows.arenaAloneRow.domain false) (Rows.arenaAloneSpec.post enc Try.prog Try.f8 false true false false) := by
  refine law_lifted (C := Try.checked) facts own started (by kernel_rfl) Try.func8
    (ChangeSpec.witness6 (enc := enc) (C := Try.checked) false ⟨#[], #[.int .i64 0, .slice none 0 0], []⟩ 8 (by kernel_rfl) (by kernel_rfl) (by kernel_rfl) (by kernel_rfl)) rfl (fun ds h => ?_) Try.underlying4 (by kernel_rfl) (by kernel_rfl) fun W base args ds p hval hA hlt => ?_
  · rw [Try.params8] at h
    match ds, h with
    | [d, e], _ => rfl
  rw [Try.params8] at hA hval
  obtain ⟨v0, v1, d0, d1, p0, p1, rfl, rfl, rfl, h0, h1⟩ := trodAll_two hA
  obtain ⟨n, rfl, _, _⟩ := open_int Try.underlying3 (hval 0 3 v0 rfl rfl) h0
  rcases arg_ints Try.underlying68 Try.underlying5 cellsU8 (hval 1 68 v1 rfl rfl) h1 with rfl | ⟨ad, rfl⟩ | ⟨g, o, cap, xs, rfl, hg, hcap, _, hcell, hwf⟩
  · exact aa_nil W (envG (aaI n 0 0) (fun _ => [])) rfl
  · exact aa_emp W ⟨inM, fun _ => ghL [], aaI n 0 0, fun _ => false, fun _ => .bool false, fun _ => [], fun _ => ad, fun _ => rfl⟩ rfl
  · exact aa_calls W (envG (aaI n o cap) (fun _ => xs)) rfl g hg (by simp [envG, aaI]) (by simp only [envG, aaI]; omega) (fun x hx => wf_u8 (hwf x hx)) (by simpa [envG, aaI] using hcell)

theorem arenaAlone_joined : joinedFacts Try.prog 8 Try.f8 Rows.arenaAloneSpec Rows.arenaAloneRow = true :=
  joined_of facts (by kernel_rfl) ⟨rfl, rfl, rfl, rfl, rfl, rfl⟩ (by kernel_rfl) (by kernel_rfl) (by kernel_rfl) (by kernel_rfl) (by kernel_rfl) (by kernel_rfl) (by kernel_rfl) ⟨by kernel_rfl, by kernel_rfl⟩ (by kernel_rfl)

theorem arenaAlone_holds : Rows.ArenaAloneSaid :=
  OpenClaim.holds_of_wide 8 Try.f8 rfl rfl rfl rfl rfl rfl rfl ⟨rfl, rfl, rfl, rfl, rfl⟩ rfl rfl rfl rfl rfl (by kernel_rfl) Try.func8 arenaAlone_joined
    (of_decide_eq_true (by kernel_rfl)) (by unfold Func.isWrapper; first | (rw [if_pos (by decide +kernel)]; kernel_rfl) | (rw [if_neg (by decide +kernel)]; exact ⟨rfl, rfl⟩))
    (fun os started H enc _ => arenaAlone_lifted os started H enc)
#print axioms arenaAlone_holds
end Go.Proofs.Ytoogepoalbhlhaa
end
