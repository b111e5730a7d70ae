/- The law coachyardlaw32.LaneSteps: nothing else can be. -/
import Derived.Test.YtlmenjenkpnacaaLwS3w0
import Derived.Test.YtlmenjenkpnacaaLwS3w1
import Derived.Test.YtlmenjenkpnacaaLwS3w2
import Derived.Test.YtlmenjenkpnacaaLwS3w3
import Derived.Test.YtlmenjenkpnacaaLwS3w4
import Derived.Test.YtlmenjenkpnacaaLwS3w5
import Derived.Test.YtlmenjenkpnacaaSyM
import Derived.Test.YtlmenjenkpnacaaLwXA
import Derived.Test.YtlmenjenkpnacaaSyE
import Derived.Test.YtlmenjenkpnacaaRows
set_option linter.unusedVariables false
set_option linter.unusedSimpArgs false

section
namespace Go.Proofs.Ytlmenjenkpnacaa
open Go Go.Sy Go.RowKit

theorem oS3_ok : OOK Try.prog (oS3 Try.prog) inM := opAppN_ok (pruned_ok pr (like32pn_ok (like32td_ok (like32tn_ok (seen32pd_ok (seen32pn_ok (seen32td_ok (seen32tn_ok (rightS3_ok (awake32_ok oL3_ok32tn))))))))))
theorem runS3v {k : Nat} (h : k < 6) : restOf (runX Try.prog (oS3 Try.prog) fS3 (argsS3 tldV) (wayS3 k ++ pcS3) hpS3) = some [] := by
  match k, h with
  | 0, _ => exact runS3v0
  | 1, _ => exact runS3v1
  | 2, _ => exact runS3v2
  | 3, _ => exact runS3v3
  | 4, _ => exact runS3v4
  | 5, _ => exact runS3v5
theorem runS3n {k : Nat} (h : k < 6) : restOf (runX Try.prog (oS3 Try.prog) fS3 (argsS3 .nilSl) (wayS3 k) []) = some [] := by
  match k, h with
  | 0, _ => exact runS3n0
  | 1, _ => exact runS3n1
  | 2, _ => exact runS3n2
  | 3, _ => exact runS3n3
  | 4, _ => exact runS3n4
  | 5, _ => exact runS3n5
theorem runS3e {k : Nat} (h : k < 6) : restOf (runX Try.prog (oS3 Try.prog) fS3 (argsS3 (.emp 0)) (wayS3 k) []) = some [] := by
  match k, h with
  | 0, _ => exact runS3e0
  | 1, _ => exact runS3e1
  | 2, _ => exact runS3e2
  | 3, _ => exact runS3e3
  | 4, _ => exact runS3e4
  | 5, _ => exact runS3e5
end Go.Proofs.Ytlmenjenkpnacaa
end

section
namespace Go.Proofs.Ytlmenjenkpnacaa
open Go.ChangeShapes Go.WideShapes Go.ChangeAt Go.RowKit Go.Sy

theorem trodAll_three {H : Type} {enc : TypeId × Value → H} {P : Program} {w : World} {base : Nat} {spare : Nat → Bool} {held : Bool} {t t' t2 : TypeId} {args : Array Value} {ds : List (DataW H)} {ps : List MemPlace} (h : DataW.TrodAll enc P w base spare held [t, t', t2] args.toList ds ps) :
    ∃ v v' v2 d d' d2 p p' p2, args = #[v, v', v2] ∧ ds = [d, d', d2] ∧ DataW.Trod enc P w base spare held t v d p ∧ DataW.Trod enc P w base spare held t' v' d' p' ∧ DataW.Trod enc P w base spare held t2 v2 d2 p2 := by
  obtain ⟨v, vs, d, ds', p, q, hargs, rfl, rfl, hd, hrest⟩ := trodAll_cons h
  obtain ⟨v', vs', d', e2, p', q', rfl, rfl, rfl, hd', hrest'⟩ := trodAll_cons hrest
  obtain ⟨v2, vs2, d2, e3, p2, q2, rfl, rfl, rfl, hd2, hrest2⟩ := trodAll_cons hrest'
  obtain ⟨rfl, rfl, rfl⟩ := trodAll_nil hrest2
  exact ⟨v, v', v2, d, d', d2, p, p', p2, by cases args; simp_all, rfl, hd, hd', hd2⟩
theorem wf_u64 {x : Int} (h : (Lit.int .u64 x).wf = true) : 0 ≤ x ∧ x ≤ 18446744073709551615 := by
  simp only [Lit.wf, Bool.and_eq_true, decide_eq_true_eq, IntKind.min, IntKind.max, IntKind.bits, IntKind.signed] at h
  simpa using h

theorem cellsU64 : Try.prog.cellsOf 53 = 1 := by kernel_rfl
theorem cellsLn : Try.prog.cellsOf 71 = 2 := by kernel_rfl
set_option maxRecDepth 100000 in
theorem arg_row {H : Type} {enc : TypeId × Value → H} {W : World} {base : Nat} {spare : Nat → Bool} {held : Bool} {r : Reach} {b0 : Nat} {v : Value} {d : DataW H} {ps : List MemPlace} (hok : Value.okWide Try.prog W r b0 71 v)
    (h : DataW.Trod enc Try.prog W base spare held 71 v d ps) : ∃ (a c : Int), v = .agg #[.int .i64 a, .int .i64 c] := by
  obtain ⟨v0, v1, y0, y1, n, rfl, _, _, h0, h1⟩ := Go.Joins.open_agg2 Try.underlying71 (by kernel_rfl) cellsLn hok h
  obtain ⟨a, e0, _, w0⟩ := DataW.trod_int Try.underlying3 h0
  obtain ⟨c, e1, _, w1⟩ := DataW.trod_int Try.underlying3 h1
  simp only [List.cons.injEq, and_true] at e0 e1
  subst e0 e1
  exact ⟨a, c, rfl⟩

theorem cellsTold : Try.prog.cellsOf 124 = 2 := by kernel_rfl
def s3I (a c m n o cap : Int) : Nat → Int | 10 => a | 11 => c | 12 => m | 7 => n | 8 => o | 9 => cap | _ => 0
def envS3 (q : List (Int × Int × Int × Int)) (i : Nat → Int) (ad : Addr) : Env Gh := ⟨inM, fun _ => ⟨0, 0, false, [], q, [], 0⟩, i, fun _ => false, fun _ => .bool false, fun _ => [], fun _ => ad, fun _ => rfl⟩

set_option maxRecDepth 100000 in
theorem laneSteps_lifted (os : Os) (started : os.Started) (H : Type) (enc : TypeId × Value → H) :
    ReturnsInHanded {} Try.checked os 8 .any (Rows.laneStepsSpec.pre6 enc Try.prog Try.f8 Rows.laneStepsRow.domain false) (Rows.laneStepsSpec.post enc Try.prog Try.f8 false true false false) := by
  refine law_lifted (C := Try.checked) facts own started (by kernel_rfl) Try.func8
    (ChangeSpec.witness6 (enc := enc) (C := Try.checked) false ⟨#[], #[.agg #[.int .i64 0, .int .i64 0], .int .u64 0, .slice none 0 0], []⟩ 8 (by kernel_rfl) (by kernel_rfl) (by kernel_rfl) (by kernel_rfl)) rfl (fun ds h => ?_) Try.underlying4 (by kernel_rfl) (by kernel_rfl) fun W base args ds p hval hA hlt => ?_
  · rw [Try.params8] at h
    match ds, h with
    | [d, e, f], _ => rfl
  rw [Try.params8] at hA hval
  obtain ⟨v0, v1, v2, d0, d1, d2, p0, p1, p2, rfl, rfl, h0, h1, h2⟩ := trodAll_three hA
  obtain ⟨m, rfl, _, _, w1⟩ := open_int Try.underlying53 (hval 1 53 v1 rfl rfl) h1
  have wm : 0 ≤ m ∧ m < 18446744073709551616 := by have := wf_u64 w1; omega
  obtain ⟨a, c, rfl⟩ := arg_row (hval 0 71 v0 rfl rfl) h0
  rcases arg_told Try.underlying59 Try.underlying124 cellsTold rfl rfl (by kernel_rfl) (by kernel_rfl) Try.underlying53 Try.underlying4 (hval 2 59 v2 rfl rfl) h2 with rfl | ⟨ad, rfl⟩ | ⟨g, o, cap, qs, rfl, hg, hcap, _, hcell, hwf⟩
  · obtain ⟨k, hk, hw⟩ := wayS3_den (envS3 [] (s3I a c m 0 0 0) ⟨0, 0, none⟩) wm.1 wm.2
    exact law_auto pr oS3_ok (runS3n hk) W (envS3 [] (s3I a c m 0 0 0) ⟨0, 0, none⟩) (fun _ => 0) rfl hw (HW.empty _ _ _)
  · obtain ⟨k, hk, hw⟩ := wayS3_den (envS3 [] (s3I a c m 0 0 0) ad) wm.1 wm.2
    exact law_auto pr oS3_ok (runS3e hk) W (envS3 [] (s3I a c m 0 0 0) ad) (fun _ => 0) rfl hw (HW.empty _ _ _)
  · have h83 : (SB.gb 0 (.app 83 (.var 1) (.var 0) (.lit 0) (.lit 0) (.lit 0) (.lit 0) .nil) (.lit 0) (.lit 0)).den (envS3 qs (s3I a c m qs.length o cap) ⟨0, 0, none⟩) = true := by
      rw [x83 rfl]
      exact List.all_eq_true.2 fun q hq => decide_eq_true (hwf q hq)
    obtain ⟨k, hk, hw⟩ := wayS3_den (envS3 qs (s3I a c m qs.length o cap) ⟨0, 0, none⟩) wm.1 wm.2
    exact law_auto pr oS3_ok (runS3v hk) W (envS3 qs (s3I a c m qs.length o cap) ⟨0, 0, none⟩) (fun _ => g) rfl
      (pcDen_append hw (pcDen_cons (by simp [SB.den, SI.den, envS3, s3I]) (pcDen_cons (by simp [SB.den, SI.den, envS3, s3I]) (pcDen_one h83))))
      ((HW.empty _ _ _).addTab (by simp) (by rw [baseOf_own]; omega) (by simp [SI.den, envS3, s3I]) (by
        intro i j k hi hj
        simp only [SI.den, envS3, s3I, Int.toNat_natCast] at hi
        have hq := hcell i (qs[i]) (List.getElem?_eq_getElem hi)
        have hd : qs[i]? = some qs[i] := List.getElem?_eq_getElem hi
        match j, hj with
        | 0, hj => cases hj; simpa [SI.den, SG.den, envS3, s3I, baseOf, tabV, inM, hd] using hq.1
        | 1, hj => cases hj; simpa [SI.den, SG.den, envS3, s3I, baseOf, tabV, inM, hd] using hq.2
        | j + 2, hj => simp at hj))

theorem laneSteps_joined : joinedFacts Try.prog 8 Try.f8 Rows.laneStepsSpec Rows.laneStepsRow = true :=
  joined_of facts (by kernel_rfl) ⟨rfl, rfl, rfl, rfl, rfl, rfl⟩ (by kernel_rfl) (by kernel_rfl) (by kernel_rfl) (by kernel_rfl) (by kernel_rfl) (by kernel_rfl) (by kernel_rfl) ⟨by kernel_rfl, by kernel_rfl⟩ (by kernel_rfl)

theorem laneSteps_holds : Rows.LaneStepsSaid :=
  OpenClaim.holds_of_wide 8 Try.f8 rfl rfl rfl rfl rfl rfl rfl ⟨rfl, rfl, rfl, rfl, rfl⟩ rfl rfl rfl rfl rfl (by kernel_rfl) Try.func8 laneSteps_joined
    (of_decide_eq_true (by kernel_rfl)) (by unfold Func.isWrapper; first | (rw [if_pos (by decide +kernel)]; kernel_rfl) | (rw [if_neg (by decide +kernel)]; exact ⟨rfl, rfl⟩))
    (fun os started H enc _ => laneSteps_lifted os started H enc)
#print axioms laneSteps_holds
end Go.Proofs.Ytlmenjenkpnacaa
end
