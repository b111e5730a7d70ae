/- 'coachyardlaw09.QueueAll' returns true for every list and every queue, and leaves all that was there as it was. -/
import Derived.Test.YtcbgmkngkkajlaaLwXZ
import Derived.Test.YtcbgmkngkkajlaaLwXA
import Derived.Test.YtcbgmkngkkajlaaSyE
import Derived.Test.YtcbgmkngkkajlaaRows
set_option linter.unusedVariables false
set_option linter.unusedSimpArgs false

section
namespace Go.Proofs.Ytcbgmkngkkajlaa
open Go.ChangeShapes Go.WideShapes Go.ChangeAt Go.RowKit Go.Sy

theorem trodAll_two' {H : Type} {enc : TypeId × Value → H} {P : Program} {w : World} {base : Nat} {spare : Nat → Bool} {held : Bool} {t t' : TypeId} {args : Array Value} {ds : List (DataW H)} {ps : List MemPlace} (h : DataW.TrodAll enc P w base spare held [t, t'] args.toList ds ps) :
    ∃ v v' d d' p p', args = #[v, v'] ∧ ds = [d, d'] ∧ DataW.Trod enc P w base spare held t v d p ∧ DataW.Trod enc P w base spare held t' v' d' p' := by
  obtain ⟨v, vs, d, ds', p, q, hargs, rfl, rfl, hd, hrest⟩ := trodAll_cons h
  obtain ⟨v', vs', d', e2, p', q', rfl, rfl, rfl, hd', hrest'⟩ := trodAll_cons hrest
  obtain ⟨rfl, rfl, rfl⟩ := trodAll_nil hrest'
  exact ⟨v, v', d, d', p, p', by cases args; simp_all, rfl, hd, hd'⟩
theorem cellsU64 : Try.prog.cellsOf 46 = 1 := by kernel_rfl
theorem cellsAr : Try.prog.cellsOf 24 = 2 := by kernel_rfl
set_option maxRecDepth 100000 in
theorem arg_row {H : Type} {enc : TypeId × Value → H} {W : World} {base : Nat} {spare : Nat → Bool} {held : Bool} {r : Reach} {b0 : Nat} {v : Value} {d : DataW H} {ps : List MemPlace} (hok : Value.okWide Try.prog W r b0 24 v)
    (h : DataW.Trod enc Try.prog W base spare held 24 v d ps) : ∃ (a c : Int), v = .agg #[.int .i64 a, .int .i64 c] := by
  obtain ⟨v0, v1, y0, y1, n, rfl, _, _, h0, h1⟩ := Go.Joins.open_agg2 Try.underlying24 (by kernel_rfl) cellsAr hok h
  obtain ⟨a, e0, _, w0⟩ := DataW.trod_int Try.underlying3 h0
  obtain ⟨c, e1, _, w1⟩ := DataW.trod_int Try.underlying3 h1
  simp only [List.cons.injEq, and_true] at e0 e1
  subst e0 e1
  exact ⟨a, c, rfl⟩

def envG (i : Nat → Int) (l : Nat → List Int) : Env Gh := ⟨inM, fun _ => ghL [], i, fun _ => false, fun _ => .bool false, l, noAddr, fun _ => rfl⟩
def ilI (a c o cap : Int) : Nat → Int | 10 => a | 11 => c | 8 => o | 9 => cap | _ => 0

set_option maxRecDepth 100000 in
theorem queueAll_lifted (os : Os) (started : os.Started) (H : Type) (enc : TypeId × Value → H) :
    ReturnsInHanded {} Try.checked os 4 .any (Rows.queueAllSpec.pre6 enc Try.prog Try.f4 Rows.queueAllRow.domain false) (Rows.queueAllSpec.post enc Try.prog Try.f4 false true false false) := by
  refine law_lifted (C := Try.checked) facts own started (by kernel_rfl) Try.func4
    (ChangeSpec.witness6 (enc := enc) (C := Try.checked) false ⟨#[], #[.slice none 0 0, .agg #[.int .i64 0, .int .i64 0]], []⟩ 8 (by kernel_rfl) (by kernel_rfl) (by kernel_rfl) (by kernel_rfl)) rfl (fun ds h => ?_) Try.underlying4 (by kernel_rfl) (by kernel_rfl) fun W base args ds p hval hA hlt => ?_
  · rw [Try.params4] at h
    match ds, h with
    | [d, e], _ => rfl
  rw [Try.params4] at hA hval
  obtain ⟨v0, v1, d0, d1, p0, p1, rfl, rfl, h0, h1⟩ := trodAll_two' hA
  obtain ⟨a, c, rfl⟩ := arg_row (hval 1 24 v1 rfl rfl) h1
  rcases arg_ints Try.underlying22 Try.underlying46 cellsU64 (hval 0 22 v0 rfl rfl) h0 with rfl | ⟨ad, rfl⟩ | ⟨g, o, cap, xs, rfl, hg, hcap, _, hcell, _⟩
  · exact law_auto pr oQz0_ok runZqn W (envG (ilI a c 0 0) (fun _ => [])) (fun _ => 0) rfl (pcDen_nil _) (HW.empty _ _ _)
  · exact law_auto pr oQz0_ok runZqe W ⟨inM, fun _ => ghL [], ilI a c 0 0, fun _ => false, fun _ => .bool false, fun _ => [], fun _ => ad, fun _ => rfl⟩ (fun _ => 0) rfl (pcDen_nil _) (HW.empty _ _ _)
  · rcases way_den (envG (ilI a c o cap) (fun _ => xs)) (pcDen_cons (by simp [SB.den, SI.den, envG, ilI]) (pcDen_one (by simp only [SB.den, SI.den, SL.den, envG, ilI, decide_eq_false_iff_not]; omega))) with ⟨k, hk, hpc⟩ | hpc
    · exact law_auto pr oQz0_ok (runZq hk) W (envG (ilI a c o cap) (fun _ => xs)) (fun _ => g) rfl hpc
        ((HW.empty _ _ _).addView (by simp) (by rw [baseOf_own]; omega) (by simp [SI.den, envG, ilI]) (by simpa [SI.den, SL.den, envG, ilI, baseOf] using hcell))
    · exact law_rest pr oQz_ok runZq5 W (envG (ilI a c o cap) (fun _ => xs)) (fun _ => g) rfl hpc
        ((HW.empty _ _ _).addView (by simp) (by rw [baseOf_own]; omega) (by simp [SI.den, envG, ilI]) (by simpa [SI.den, SL.den, envG, ilI, baseOf] using hcell))
        fun x hx ν' ρ' hag hp => qz_rest x hx ν' ρ' hag.I hp

theorem queueAll_joined : joinedFacts Try.prog 4 Try.f4 Rows.queueAllSpec Rows.queueAllRow = true :=
  joined_of facts (by kernel_rfl) ⟨rfl, rfl, rfl, rfl, rfl, rfl⟩ (by kernel_rfl) (by kernel_rfl) (by kernel_rfl) (by kernel_rfl) (by kernel_rfl) (by kernel_rfl) (by kernel_rfl) ⟨by kernel_rfl, by kernel_rfl⟩ (by kernel_rfl)

theorem queueAll_holds : Rows.QueueAllSaid :=
  OpenClaim.holds_of_wide 4 Try.f4 rfl rfl rfl rfl rfl rfl rfl ⟨rfl, rfl, rfl, rfl, rfl⟩ rfl rfl rfl rfl rfl (by kernel_rfl) Try.func4 queueAll_joined
    (of_decide_eq_true (by kernel_rfl)) (by unfold Func.isWrapper; first | (rw [if_pos (by decide +kernel)]; kernel_rfl) | (rw [if_neg (by decide +kernel)]; exact ⟨rfl, rfl⟩))
    (fun os started H enc _ => queueAll_lifted os started H enc)
#print axioms queueAll_holds
end Go.Proofs.Ytcbgmkngkkajlaa
end
