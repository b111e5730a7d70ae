/- 'coachyardlaw08.RingAll' returns true for every list and every row, and leaves all that was there as it was. -/
import Derived.Test.YtjcphbcjnjeccaaLwRgLaw
import Derived.Test.YtjcphbcjnjeccaaLwSign
import Derived.Test.YtjcphbcjnjeccaaSy26
import Derived.Test.YtjcphbcjnjeccaaRows
set_option linter.unusedVariables false
set_option linter.unusedSimpArgs false
namespace Go.Proofs.Ytjcphbcjnjeccaa
open Go.ChangeShapes Go.WideShapes Go.ChangeAt Go.RowKit Go.Sy

theorem cellsU64 : Try.prog.cellsOf 38 = 1 := by kernel_rfl
theorem cellsRg : Try.prog.cellsOf 67 = 2 := by kernel_rfl
set_option maxRecDepth 100000 in
theorem arg_row {H : Type} {enc : TypeId × Value → H} {W : World} {base : Nat} {spare : Nat → Bool} {held : Bool} {r : Reach} {b0 : Nat} {v : Value} {d : DataW H} {ps : List MemPlace} (hok : Value.okWide Try.prog W r b0 67 v)
    (h : DataW.Trod enc Try.prog W base spare held 67 v d ps) : ∃ (a c : Int), v = .agg #[.int .i64 a, .int .i64 c] := by
  obtain ⟨v0, v1, y0, y1, n, rfl, _, _, h0, h1⟩ := Go.Joins.open_agg2 Try.underlying67 (by kernel_rfl) cellsRg hok h
  obtain ⟨a, e0, _, w0⟩ := DataW.trod_int Try.underlying3 h0
  obtain ⟨c, e1, _, w1⟩ := DataW.trod_int Try.underlying3 h1
  simp only [List.cons.injEq, and_true] at e0 e1
  subst e0 e1
  exact ⟨a, c, rfl⟩

def envG (i : Nat → Int) (l : Nat → List Int) : Env Gh := ⟨inM, fun _ => ghL [], i, fun _ => false, fun _ => .bool false, l, noAddr, fun _ => rfl⟩
def rgI (a c o cap : Int) : Nat → Int | 10 => a | 11 => c | 8 => o | 9 => cap | _ => 0

set_option maxRecDepth 100000 in
theorem ringAll_lifted (os : Os) (started : os.Started) (H : Type) (enc : TypeId × Value → H) :
    ReturnsInHanded {} Try.checked os 8 .any (Rows.ringAllSpec.pre6 enc Try.prog Try.f8 Rows.ringAllRow.domain false) (Rows.ringAllSpec.post enc Try.prog Try.f8 false true false false) := by
  refine law_lifted (C := Try.checked) facts own started (by kernel_rfl) Try.func8
    (ChangeSpec.witness6 (enc := enc) (C := Try.checked) false ⟨#[], #[.slice none 0 0, .agg #[.int .i64 0, .int .i64 0]], []⟩ 8 (by kernel_rfl) (by kernel_rfl) (by kernel_rfl) (by kernel_rfl)) rfl (fun ds h => ?_) Try.underlying4 (by kernel_rfl) (by kernel_rfl) fun W base args ds p hval hA hlt => ?_
  · rw [Try.params8] at h
    match ds, h with
    | [d, e], _ => rfl
  rw [Try.params8] at hA hval
  obtain ⟨v0, v1, d0, d1, p0, p1, rfl, rfl, rfl, h0, h1⟩ := trodAll_two hA
  obtain ⟨a, c, rfl⟩ := arg_row (hval 1 67 v1 rfl rfl) h1
  rcases arg_ints Try.underlying22 Try.underlying38 cellsU64 (hval 0 22 v0 rfl rfl) h0 with rfl | ⟨ad, rfl⟩ | ⟨g, o, cap, xs, rfl, hg, hcap, _, hcell, _⟩
  · exact law_auto pr oLr_ok run8n W (envG (rgI a c 0 0) (fun _ => [])) (fun _ => 0) rfl (pcDen_nil _) (HW.empty _ _ _)
  · exact law_auto pr oLr_ok run8e W ⟨inM, fun _ => ghL [], rgI a c 0 0, fun _ => false, fun _ => .bool false, fun _ => [], fun _ => ad, fun _ => rfl⟩ (fun _ => 0) rfl (pcDen_nil _) (HW.empty _ _ _)
  · exact law_rest pr oLr_ok run8v W (envG (rgI a c o cap) (fun _ => xs)) (fun _ => g) rfl (pcDen_cons (by simp [SB.den, SI.den, envG, rgI]) (pcDen_one (by simp only [SB.den, SI.den, SL.den, envG, rgI, decide_eq_false_iff_not]; omega)))
      ((HW.empty _ _ _).addView (by simp) (by rw [baseOf_own]; omega) (by simp [SI.den, envG, rgI]) (by simpa [SI.den, SL.den, envG, rgI, baseOf] using hcell))
      fun x hx ν' ρ' hag hp => lr_rest x hx ν' ρ' hag.I (by rw [hag.i 8 (by kernel_rfl)]; simp [envG, rgI]) (by rw [hag.l 0 (by kernel_rfl), hag.i 9 (by kernel_rfl)]; simp only [envG, rgI]; omega) hp

theorem ringAll_joined : joinedFacts Try.prog 8 Try.f8 Rows.ringAllSpec Rows.ringAllRow = true :=
  joined_of facts (by kernel_rfl) ⟨rfl, rfl, rfl, rfl, rfl, rfl⟩ (by kernel_rfl) (by kernel_rfl) (by kernel_rfl) (by kernel_rfl) (by kernel_rfl) (by kernel_rfl) (by kernel_rfl) ⟨by kernel_rfl, by kernel_rfl⟩ (by kernel_rfl)

theorem ringAll_holds : Rows.RingAllSaid :=
  OpenClaim.holds_of_wide 8 Try.f8 rfl rfl rfl rfl rfl rfl rfl ⟨rfl, rfl, rfl, rfl, rfl⟩ rfl rfl rfl rfl rfl (by kernel_rfl) Try.func8 ringAll_joined
    (of_decide_eq_true (by kernel_rfl)) (by unfold Func.isWrapper; first | (rw [if_pos (by decide +kernel)]; kernel_rfl) | (rw [if_neg (by decide +kernel)]; exact ⟨rfl, rfl⟩))
    (fun os started H enc _ => ringAll_lifted os started H enc)
#print axioms ringAll_holds
end Go.Proofs.Ytjcphbcjnjeccaa
