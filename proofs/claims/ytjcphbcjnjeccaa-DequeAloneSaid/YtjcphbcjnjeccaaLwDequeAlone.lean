/- 'coachyardlaw07.DequeAlone' returns true for every size, every count and every list of deeds, and leaves all that was there as it was. -/
import Derived.Test.YtjcphbcjnjeccaaLwXF
import Derived.Test.YtjcphbcjnjeccaaLwXA
import Derived.Test.YtjcphbcjnjeccaaSyE
import Derived.Test.YtjcphbcjnjeccaaRows
set_option linter.unusedVariables false
set_option linter.unusedSimpArgs false

section
namespace Go.Proofs.Ytjcphbcjnjeccaa
open Go.ChangeShapes Go.WideShapes Go.ChangeAt Go.RowKit Go.Sy

theorem cellsU8 : Try.prog.cellsOf 5 = 1 := by kernel_rfl
def envG (i : Nat → Int) (l : Nat → List Int) : Env Gh := ⟨inM, fun _ => ghL [], i, fun _ => false, fun _ => .bool false, l, noAddr, fun _ => rfl⟩
def dnI (s f o cap : Int) : Nat → Int | 11 => s | 12 => f | 8 => o | 9 => cap | _ => 0
theorem wf_u8 {x : Int} (h : (Lit.int .u8 x).wf = true) : 0 ≤ x ∧ x ≤ 255 := by
  simp only [Lit.wf, Bool.and_eq_true, decide_eq_true_eq, IntKind.min, IntKind.max, IntKind.bits, IntKind.signed] at h
  simpa using h
theorem wf_u64 {x : Int} (h : (Lit.int .u64 x).wf = true) : 0 ≤ x ∧ x ≤ 18446744073709551615 := by
  simp only [Lit.wf, Bool.and_eq_true, decide_eq_true_eq, IntKind.min, IntKind.max, IntKind.bits, IntKind.signed] at h
  simpa using h

set_option maxRecDepth 100000 in
theorem dequeAlone_lifted (os : Os) (started : os.Started) (H : Type) (enc : TypeId × Value → H) :
    ReturnsInHanded {} Try.checked os 4 .any (Rows.dequeAloneSpec.pre6 enc Try.prog Try.f4 Rows.dequeAloneRow.domain false) (Rows.dequeAloneSpec.post enc Try.prog Try.f4 false true false false) := by
  refine law_lifted (C := Try.checked) facts own started (by kernel_rfl) Try.func4
    (ChangeSpec.witness6 (enc := enc) (C := Try.checked) false ⟨#[], #[.int .i64 0, .int .u64 0, .slice none 0 0], []⟩ 8 (by kernel_rfl) (by kernel_rfl) (by kernel_rfl) (by kernel_rfl)) rfl (fun ds h => ?_) Try.underlying4 (by kernel_rfl) (by kernel_rfl) fun W base args ds p hval hA hlt => ?_
  · rw [Try.params4] at h
    match ds, h with
    | [d, e, f], _ => rfl
  rw [Try.params4] at hA hval
  obtain ⟨v0, v1, v2, d0, d1, d2, p0, p1, p2, rfl, rfl, rfl, h0, h1, h2⟩ := trodAll_three hA
  obtain ⟨s, rfl, _, _⟩ := open_int Try.underlying3 (hval 0 3 v0 rfl rfl) h0
  obtain ⟨f, rfl, _, _, w1⟩ := open_int Try.underlying38 (hval 1 38 v1 rfl rfl) h1
  have hf := wf_u64 w1
  rcases arg_ints Try.underlying39 Try.underlying5 cellsU8 (hval 2 39 v2 rfl rfl) h2 with rfl | ⟨ad, rfl⟩ | ⟨g, o, cap, xs, rfl, hg, hcap, _, hcell, hwf⟩
  · exact dn_nil W (envG (dnI s f 0 0) (fun _ => [])) rfl
  · exact dn_emp W ⟨inM, fun _ => ghL [], dnI s f 0 0, fun _ => false, fun _ => .bool false, fun _ => [], fun _ => ad, fun _ => rfl⟩ rfl
  · exact dn_calls W (envG (dnI s f o cap) (fun _ => xs)) rfl g hg (by simp [envG, dnI]) (by simp only [envG, dnI]; omega) hf.1 hf.2 (fun x hx => wf_u8 (hwf x hx)) (by simpa [envG, dnI] using hcell)

theorem dequeAlone_joined : joinedFacts Try.prog 4 Try.f4 Rows.dequeAloneSpec Rows.dequeAloneRow = true :=
  joined_of facts (by kernel_rfl) ⟨rfl, rfl, rfl, rfl, rfl, rfl⟩ (by kernel_rfl) (by kernel_rfl) (by kernel_rfl) (by kernel_rfl) (by kernel_rfl) (by kernel_rfl) (by kernel_rfl) ⟨by kernel_rfl, by kernel_rfl⟩ (by kernel_rfl)

theorem dequeAlone_holds : Rows.DequeAloneSaid :=
  OpenClaim.holds_of_wide 4 Try.f4 rfl rfl rfl rfl rfl rfl rfl ⟨rfl, rfl, rfl, rfl, rfl⟩ rfl rfl rfl rfl rfl (by kernel_rfl) Try.func4 dequeAlone_joined
    (of_decide_eq_true (by kernel_rfl)) (by unfold Func.isWrapper; first | (rw [if_pos (by decide +kernel)]; kernel_rfl) | (rw [if_neg (by decide +kernel)]; exact ⟨rfl, rfl⟩))
    (fun os started H enc _ => dequeAlone_lifted os started H enc)
#print axioms dequeAlone_holds
end Go.Proofs.Ytjcphbcjnjeccaa
end
