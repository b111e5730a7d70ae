/- The law coachyardlaw07.DequeSteps: nothing else can be. -/
import Derived.Test.YtlmenjenkpnacaaLwS7w0
import Derived.Test.YtlmenjenkpnacaaLwS7w1
import Derived.Test.YtlmenjenkpnacaaLwS7w2
import Derived.Test.YtlmenjenkpnacaaLwS7w3
import Derived.Test.YtlmenjenkpnacaaLwS7w4
import Derived.Test.YtlmenjenkpnacaaLwS7w5
import Derived.Test.YtlmenjenkpnacaaSyM
import Derived.Test.YtlmenjenkpnacaaLwXA
import Derived.Test.YtlmenjenkpnacaaSyE
import Derived.Test.YtlmenjenkpnacaaRows
set_option linter.unusedVariables false
set_option linter.unusedSimpArgs false

section
namespace Go.Proofs.Ytlmenjenkpnacaa
open Go Go.Sy Go.RowKit

theorem oS7_ok : OOK Try.prog (oS7 Try.prog) inM := opAppN_ok (pruned_ok pr (like73_ok (like72_ok (like71_ok (like70_ok (seen73_ok (seen72_ok (seen71_ok (seen70_ok (rightS7_ok (awake7_ok oL7_ok71)))))))))))
theorem runS7v {k : Nat} (h : k < 6) : restOf (runX Try.prog (oS7 Try.prog) fS7 (argsS7 tldV) (wayS7 k ++ pcS7) hpS7) = some [] := by
  match k, h with
  | 0, _ => exact runS7v0
  | 1, _ => exact runS7v1
  | 2, _ => exact runS7v2
  | 3, _ => exact runS7v3
  | 4, _ => exact runS7v4
  | 5, _ => exact runS7v5
theorem runS7n {k : Nat} (h : k < 6) : restOf (runX Try.prog (oS7 Try.prog) fS7 (argsS7 .nilSl) (wayS7 k) []) = some [] := by
  match k, h with
  | 0, _ => exact runS7n0
  | 1, _ => exact runS7n1
  | 2, _ => exact runS7n2
  | 3, _ => exact runS7n3
  | 4, _ => exact runS7n4
  | 5, _ => exact runS7n5
theorem runS7e {k : Nat} (h : k < 6) : restOf (runX Try.prog (oS7 Try.prog) fS7 (argsS7 (.emp 0)) (wayS7 k) []) = some [] := by
  match k, h with
  | 0, _ => exact runS7e0
  | 1, _ => exact runS7e1
  | 2, _ => exact runS7e2
  | 3, _ => exact runS7e3
  | 4, _ => exact runS7e4
  | 5, _ => exact runS7e5
end Go.Proofs.Ytlmenjenkpnacaa
end

section
namespace Go.Proofs.Ytlmenjenkpnacaa
open Go.ChangeShapes Go.WideShapes Go.ChangeAt Go.RowKit Go.Sy

theorem trodAll_three {H : Type} {enc : TypeId × Value → H} {P : Program} {w : World} {base : Nat} {spare : Nat → Bool} {held : Bool} {t t' t2 : TypeId} {args : Array Value} {ds : List (DataW H)} {ps : List MemPlace} (h : DataW.TrodAll enc P w base spare held [t, t', t2] args.toList ds ps) :
    ∃ v v' v2 d d' d2 p p' p2, args = #[v, v', v2] ∧ ds = [d, d', d2] ∧ DataW.Trod enc P w base spare held t v d p ∧ DataW.Trod enc P w base spare held t' v' d' p' ∧ DataW.Trod enc P w base spare held t2 v2 d2 p2 := by
  obtain ⟨v, vs, d, ds', p, q, hargs, rfl, rfl, hd, hrest⟩ := trodAll_cons h
  obtain ⟨v', vs', d', e2, p', q', rfl, rfl, rfl, hd', hrest'⟩ := trodAll_cons hrest
  obtain ⟨v2, vs2, d2, e3, p2, q2, rfl, rfl, rfl, hd2, hrest2⟩ := trodAll_cons hrest'
  obtain ⟨rfl, rfl, rfl⟩ := trodAll_nil hrest2
  exact ⟨v, v', v2, d, d', d2, p, p', p2, by cases args; simp_all, rfl, hd, hd', hd2⟩
theorem wf_u64 {x : Int} (h : (Lit.int .u64 x).wf = true) : 0 ≤ x ∧ x ≤ 18446744073709551615 := by
  simp only [Lit.wf, Bool.and_eq_true, decide_eq_true_eq, IntKind.min, IntKind.max, IntKind.bits, IntKind.signed] at h
  simpa using h

theorem cellsU64 : Try.prog.cellsOf 53 = 1 := by kernel_rfl
theorem cellsDq : Try.prog.cellsOf 90 = 2 := by kernel_rfl
set_option maxRecDepth 100000 in
theorem arg_row {H : Type} {enc : TypeId × Value → H} {W : World} {base : Nat} {spare : Nat → Bool} {held : Bool} {r : Reach} {b0 : Nat} {v : Value} {d : DataW H} {ps : List MemPlace} (hok : Value.okWide Try.prog W r b0 90 v)
    (h : DataW.Trod enc Try.prog W base spare held 90 v d ps) : ∃ (a c : Int), v = .agg #[.int .i64 a, .int .i64 c] := by
  obtain ⟨v0, v1, y0, y1, n, rfl, _, _, h0, h1⟩ := Go.Joins.open_agg2 Try.underlying90 (by kernel_rfl) cellsDq hok h
  obtain ⟨a, e0, _, w0⟩ := DataW.trod_int Try.underlying3 h0
  obtain ⟨c, e1, _, w1⟩ := DataW.trod_int Try.underlying3 h1
  simp only [List.cons.injEq, and_true] at e0 e1
  subst e0 e1
  exact ⟨a, c, rfl⟩

theorem cellsTold : Try.prog.cellsOf 124 = 2 := by kernel_rfl
def s7I (a c m n o cap : Int) : Nat → Int | 10 => a | 11 => c | 12 => m | 7 => n | 8 => o | 9 => cap | _ => 0
def envS7 (q : List (Int × Int × Int × Int)) (i : Nat → Int) (ad : Addr) : Env Gh := ⟨inM, fun _ => ⟨0, 0, false, [], q, [], 0⟩, i, fun _ => false, fun _ => .bool false, fun _ => [], fun _ => ad, fun _ => rfl⟩

set_option maxRecDepth 100000 in
theorem dequeSteps_lifted (os : Os) (started : os.Started) (H : Type) (enc : TypeId × Value → H) :
    ReturnsInHanded {} Try.checked os 10 .any (Rows.dequeStepsSpec.pre6 enc Try.prog Try.f10 Rows.dequeStepsRow.domain false) (Rows.dequeStepsSpec.post enc Try.prog Try.f10 false true false false) := by
  refine law_lifted (C := Try.checked) facts own started (by kernel_rfl) Try.func10
    (ChangeSpec.witness6 (enc := enc) (C := Try.checked) false ⟨#[], #[.agg #[.int .i64 0, .int .i64 0], .int .u64 0, .slice none 0 0], []⟩ 8 (by kernel_rfl) (by kernel_rfl) (by kernel_rfl) (by kernel_rfl)) rfl (fun ds h => ?_) Try.underlying4 (by kernel_rfl) (by kernel_rfl) fun W base args ds p hval hA hlt => ?_
  · rw [Try.params10] at h
    match ds, h with
    | [d, e, f], _ => rfl
  rw [Try.params10] at hA hval
  obtain ⟨v0, v1, v2, d0, d1, d2, p0, p1, p2, rfl, rfl, h0, h1, h2⟩ := trodAll_three hA
  obtain ⟨m, rfl, _, _, w1⟩ := open_int Try.underlying53 (hval 1 53 v1 rfl rfl) h1
  have wm : 0 ≤ m ∧ m < 18446744073709551616 := by have := wf_u64 w1; omega
  obtain ⟨a, c, rfl⟩ := arg_row (hval 0 90 v0 rfl rfl) h0
  rcases arg_told Try.underlying59 Try.underlying124 cellsTold rfl rfl (by kernel_rfl) (by kernel_rfl) Try.underlying53 Try.underlying4 (hval 2 59 v2 rfl rfl) h2 with rfl | ⟨ad, rfl⟩ | ⟨g, o, cap, qs, rfl, hg, hcap, _, hcell, hwf⟩
  · obtain ⟨k, hk, hw⟩ := wayS7_den (envS7 [] (s7I a c m 0 0 0) ⟨0, 0, none⟩) wm.1 wm.2
    exact law_auto pr oS7_ok (runS7n hk) W (envS7 [] (s7I a c m 0 0 0) ⟨0, 0, none⟩) (fun _ => 0) rfl hw (HW.empty _ _ _)
  · obtain ⟨k, hk, hw⟩ := wayS7_den (envS7 [] (s7I a c m 0 0 0) ad) wm.1 wm.2
    exact law_auto pr oS7_ok (runS7e hk) W (envS7 [] (s7I a c m 0 0 0) ad) (fun _ => 0) rfl hw (HW.empty _ _ _)
  · have h83 : (SB.gb 0 (.app 83 (.var 1) (.var 0) (.lit 0) (.lit 0) (.lit 0) (.lit 0) .nil) (.lit 0) (.lit 0)).den (envS7 qs (s7I a c m qs.length o cap) ⟨0, 0, none⟩) = true := by
      rw [x83 rfl]
      exact List.all_eq_true.2 fun q hq => decide_eq_true (hwf q hq)
    obtain ⟨k, hk, hw⟩ := wayS7_den (envS7 qs (s7I a c m qs.length o cap) ⟨0, 0, none⟩) wm.1 wm.2
    exact law_auto pr oS7_ok (runS7v hk) W (envS7 qs (s7I a c m qs.length o cap) ⟨0, 0, none⟩) (fun _ => g) rfl
      (pcDen_append hw (pcDen_cons (by simp [SB.den, SI.den, envS7, s7I]) (pcDen_cons (by simp [SB.den, SI.den, envS7, s7I]) (pcDen_one h83))))
      ((HW.empty _ _ _).addTab (by simp) (by rw [baseOf_own]; omega) (by simp [SI.den, envS7, s7I]) (by
        intro i j k hi hj
        simp only [SI.den, envS7, s7I, Int.toNat_natCast] at hi
        have hq := hcell i (qs[i]) (List.getElem?_eq_getElem hi)
        have hd : qs[i]? = some qs[i] := List.getElem?_eq_getElem hi
        match j, hj with
        | 0, hj => cases hj; simpa [SI.den, SG.den, envS7, s7I, baseOf, tabV, inM, hd] using hq.1
        | 1, hj => cases hj; simpa [SI.den, SG.den, envS7, s7I, baseOf, tabV, inM, hd] using hq.2
        | j + 2, hj => simp at hj))

theorem dequeSteps_joined : joinedFacts Try.prog 10 Try.f10 Rows.dequeStepsSpec Rows.dequeStepsRow = true :=
  joined_of facts (by kernel_rfl) ⟨rfl, rfl, rfl, rfl, rfl, rfl⟩ (by kernel_rfl) (by kernel_rfl) (by kernel_rfl) (by kernel_rfl) (by kernel_rfl) (by kernel_rfl) (by kernel_rfl) ⟨by kernel_rfl, by kernel_rfl⟩ (by kernel_rfl)

theorem dequeSteps_holds : Rows.DequeStepsSaid :=
  OpenClaim.holds_of_wide 10 Try.f10 rfl rfl rfl rfl rfl rfl rfl ⟨rfl, rfl, rfl, rfl, rfl⟩ rfl rfl rfl rfl rfl (by kernel_rfl) Try.func10 dequeSteps_joined
    (of_decide_eq_true (by kernel_rfl)) (by unfold Func.isWrapper; first | (rw [if_pos (by decide +kernel)]; kernel_rfl) | (rw [if_neg (by decide +kernel)]; exact ⟨rfl, rfl⟩))
    (fun os started H enc _ => dequeSteps_lifted os started H enc)
#print axioms dequeSteps_holds
end Go.Proofs.Ytlmenjenkpnacaa
end
