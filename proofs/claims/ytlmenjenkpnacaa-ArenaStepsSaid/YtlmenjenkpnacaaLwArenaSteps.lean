/- The law coachyardlaw06.ArenaSteps: nothing else can be. -/
import Derived.Test.YtlmenjenkpnacaaLwSlw0
import Derived.Test.YtlmenjenkpnacaaLwSlw1
import Derived.Test.YtlmenjenkpnacaaLwSlw2
import Derived.Test.YtlmenjenkpnacaaLwSlw3
import Derived.Test.YtlmenjenkpnacaaLwSlw4
import Derived.Test.YtlmenjenkpnacaaLwSlw5
import Derived.Test.YtlmenjenkpnacaaLwSlw6
import Derived.Test.YtlmenjenkpnacaaSyM
import Derived.Test.YtlmenjenkpnacaaLwXA
import Derived.Test.YtlmenjenkpnacaaSyE
import Derived.Test.YtlmenjenkpnacaaRows
set_option linter.unusedVariables false
set_option linter.unusedSimpArgs false

section
namespace Go.Proofs.Ytlmenjenkpnacaa
open Go Go.Sy Go.RowKit

theorem oSl_ok : OOK Try.prog (oSl Try.prog) inM := opAppN_ok (pruned_ok pr (like6pn_ok (like6td_ok (like6tn_ok (seen6pd_ok (seen6pn_ok (seen6td_ok (seen6tn_ok (awake6K_ok oLk_ok6tn)))))))))
theorem runSlv {k : Nat} (h : k < 7) : restOf (runX Try.prog (oSl Try.prog) fSl (argsSl tldV) (wayS k ++ pcSl) hpSl) = some [] := by
  match k, h with
  | 0, _ => exact runSlv0
  | 1, _ => exact runSlv1
  | 2, _ => exact runSlv2
  | 3, _ => exact runSlv3
  | 4, _ => exact runSlv4
  | 5, _ => exact runSlv5
  | 6, _ => exact runSlv6
theorem runSln {k : Nat} (h : k < 7) : restOf (runX Try.prog (oSl Try.prog) fSl (argsSl .nilSl) (wayS k) []) = some [] := by
  match k, h with
  | 0, _ => exact runSln0
  | 1, _ => exact runSln1
  | 2, _ => exact runSln2
  | 3, _ => exact runSln3
  | 4, _ => exact runSln4
  | 5, _ => exact runSln5
  | 6, _ => exact runSln6
theorem runSle {k : Nat} (h : k < 7) : restOf (runX Try.prog (oSl Try.prog) fSl (argsSl (.emp 0)) (wayS k) []) = some [] := by
  match k, h with
  | 0, _ => exact runSle0
  | 1, _ => exact runSle1
  | 2, _ => exact runSle2
  | 3, _ => exact runSle3
  | 4, _ => exact runSle4
  | 5, _ => exact runSle5
  | 6, _ => exact runSle6
end Go.Proofs.Ytlmenjenkpnacaa
end

section
namespace Go.Proofs.Ytlmenjenkpnacaa
open Go.ChangeShapes Go.WideShapes Go.ChangeAt Go.RowKit Go.Sy

theorem trodAll_three {H : Type} {enc : TypeId × Value → H} {P : Program} {w : World} {base : Nat} {spare : Nat → Bool} {held : Bool} {t t' t2 : TypeId} {args : Array Value} {ds : List (DataW H)} {ps : List MemPlace} (h : DataW.TrodAll enc P w base spare held [t, t', t2] args.toList ds ps) :
    ∃ v v' v2 d d' d2 p p' p2, args = #[v, v', v2] ∧ ds = [d, d', d2] ∧ DataW.Trod enc P w base spare held t v d p ∧ DataW.Trod enc P w base spare held t' v' d' p' ∧ DataW.Trod enc P w base spare held t2 v2 d2 p2 := by
  obtain ⟨v, vs, d, ds', p, q, hargs, rfl, rfl, hd, hrest⟩ := trodAll_cons h
  obtain ⟨v', vs', d', e2, p', q', rfl, rfl, rfl, hd', hrest'⟩ := trodAll_cons hrest
  obtain ⟨v2, vs2, d2, e3, p2, q2, rfl, rfl, rfl, hd2, hrest2⟩ := trodAll_cons hrest'
  obtain ⟨rfl, rfl, rfl⟩ := trodAll_nil hrest2
  exact ⟨v, v', v2, d, d', d2, p, p', p2, by cases args; simp_all, rfl, hd, hd', hd2⟩
theorem cellsU64 : Try.prog.cellsOf 53 = 1 := by kernel_rfl
theorem cellsAr : Try.prog.cellsOf 24 = 2 := by kernel_rfl
set_option maxRecDepth 100000 in
theorem arg_row {H : Type} {enc : TypeId × Value → H} {W : World} {base : Nat} {spare : Nat → Bool} {held : Bool} {r : Reach} {b0 : Nat} {v : Value} {d : DataW H} {ps : List MemPlace} (hok : Value.okWide Try.prog W r b0 24 v)
    (h : DataW.Trod enc Try.prog W base spare held 24 v d ps) : ∃ (a c : Int), v = .agg #[.int .i64 a, .int .i64 c] := by
  obtain ⟨v0, v1, y0, y1, n, rfl, _, _, h0, h1⟩ := Go.Joins.open_agg2 Try.underlying24 (by kernel_rfl) cellsAr hok h
  obtain ⟨a, e0, _, w0⟩ := DataW.trod_int Try.underlying3 h0
  obtain ⟨c, e1, _, w1⟩ := DataW.trod_int Try.underlying3 h1
  simp only [List.cons.injEq, and_true] at e0 e1
  subst e0 e1
  exact ⟨a, c, rfl⟩

theorem cellsTold : Try.prog.cellsOf 124 = 2 := by kernel_rfl
def slI (a c m n o cap : Int) : Nat → Int | 10 => a | 11 => c | 12 => m | 7 => n | 8 => o | 9 => cap | _ => 0
def envSl (q : List (Int × Int × Int × Int)) (i : Nat → Int) (ad : Addr) : Env Gh := ⟨inM, fun _ => ⟨0, 0, false, [], q, [], 0⟩, i, fun _ => false, fun _ => .bool false, fun _ => [], fun _ => ad, fun _ => rfl⟩

set_option maxRecDepth 100000 in
theorem arenaSteps_lifted (os : Os) (started : os.Started) (H : Type) (enc : TypeId × Value → H) :
    ReturnsInHanded {} Try.checked os 5 .any (Rows.arenaStepsSpec.pre6 enc Try.prog Try.f5 Rows.arenaStepsRow.domain false) (Rows.arenaStepsSpec.post enc Try.prog Try.f5 false true false false) := by
  refine law_lifted (C := Try.checked) facts own started (by kernel_rfl) Try.func5
    (ChangeSpec.witness6 (enc := enc) (C := Try.checked) false ⟨#[], #[.agg #[.int .i64 0, .int .i64 0], .int .i64 0, .slice none 0 0], []⟩ 8 (by kernel_rfl) (by kernel_rfl) (by kernel_rfl) (by kernel_rfl)) rfl (fun ds h => ?_) Try.underlying4 (by kernel_rfl) (by kernel_rfl) fun W base args ds p hval hA hlt => ?_
  · rw [Try.params5] at h
    match ds, h with
    | [d, e, f], _ => rfl
  rw [Try.params5] at hA hval
  obtain ⟨v0, v1, v2, d0, d1, d2, p0, p1, p2, rfl, rfl, h0, h1, h2⟩ := trodAll_three hA
  obtain ⟨m, rfl, _, _, _⟩ := open_int Try.underlying3 (hval 1 3 v1 rfl rfl) h1
  obtain ⟨a, c, rfl⟩ := arg_row (hval 0 24 v0 rfl rfl) h0
  rcases arg_told Try.underlying59 Try.underlying124 cellsTold rfl rfl (by kernel_rfl) (by kernel_rfl) Try.underlying53 Try.underlying4 (hval 2 59 v2 rfl rfl) h2 with rfl | ⟨ad, rfl⟩ | ⟨g, o, cap, qs, rfl, hg, hcap, _, hcell, hwf⟩
  · obtain ⟨k, hk, hw⟩ := wayS_den (envSl [] (slI a c m 0 0 0) ⟨0, 0, none⟩)
    exact law_auto pr oSl_ok (runSln hk) W (envSl [] (slI a c m 0 0 0) ⟨0, 0, none⟩) (fun _ => 0) rfl hw (HW.empty _ _ _)
  · obtain ⟨k, hk, hw⟩ := wayS_den (envSl [] (slI a c m 0 0 0) ad)
    exact law_auto pr oSl_ok (runSle hk) W (envSl [] (slI a c m 0 0 0) ad) (fun _ => 0) rfl hw (HW.empty _ _ _)
  · have h83 : (SB.gb 0 (.app 83 (.var 1) (.var 0) (.lit 0) (.lit 0) (.lit 0) (.lit 0) .nil) (.lit 0) (.lit 0)).den (envSl qs (slI a c m qs.length o cap) ⟨0, 0, none⟩) = true := by
      rw [x83 rfl]
      exact List.all_eq_true.2 fun q hq => decide_eq_true (hwf q hq)
    obtain ⟨k, hk, hw⟩ := wayS_den (envSl qs (slI a c m qs.length o cap) ⟨0, 0, none⟩)
    exact law_auto pr oSl_ok (runSlv hk) W (envSl qs (slI a c m qs.length o cap) ⟨0, 0, none⟩) (fun _ => g) rfl
      (pcDen_append hw (pcDen_cons (by simp [SB.den, SI.den, envSl, slI]) (pcDen_cons (by simp [SB.den, SI.den, envSl, slI]) (pcDen_one h83))))
      ((HW.empty _ _ _).addTab (by simp) (by rw [baseOf_own]; omega) (by simp [SI.den, envSl, slI]) (by
        intro i j k hi hj
        simp only [SI.den, envSl, slI, Int.toNat_natCast] at hi
        have hq := hcell i (qs[i]) (List.getElem?_eq_getElem hi)
        have hd : qs[i]? = some qs[i] := List.getElem?_eq_getElem hi
        match j, hj with
        | 0, hj => cases hj; simpa [SI.den, SG.den, envSl, slI, baseOf, tabV, inM, hd] using hq.1
        | 1, hj => cases hj; simpa [SI.den, SG.den, envSl, slI, baseOf, tabV, inM, hd] using hq.2
        | j + 2, hj => simp at hj))

theorem arenaSteps_joined : joinedFacts Try.prog 5 Try.f5 Rows.arenaStepsSpec Rows.arenaStepsRow = true :=
  joined_of facts (by kernel_rfl) ⟨rfl, rfl, rfl, rfl, rfl, rfl⟩ (by kernel_rfl) (by kernel_rfl) (by kernel_rfl) (by kernel_rfl) (by kernel_rfl) (by kernel_rfl) (by kernel_rfl) ⟨by kernel_rfl, by kernel_rfl⟩ (by kernel_rfl)

theorem arenaSteps_holds : Rows.ArenaStepsSaid :=
  OpenClaim.holds_of_wide 5 Try.f5 rfl rfl rfl rfl rfl rfl rfl ⟨rfl, rfl, rfl, rfl, rfl⟩ rfl rfl rfl rfl rfl (by kernel_rfl) Try.func5 arenaSteps_joined
    (of_decide_eq_true (by kernel_rfl)) (by unfold Func.isWrapper; first | (rw [if_pos (by decide +kernel)]; kernel_rfl) | (rw [if_neg (by decide +kernel)]; exact ⟨rfl, rfl⟩))
    (fun os started H enc _ => arenaSteps_lifted os started H enc)
#print axioms arenaSteps_holds
end Go.Proofs.Ytlmenjenkpnacaa
end
