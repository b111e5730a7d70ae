/- The law coachyardlaw09.QueueInits: nothing of that can be. -/
import Derived.Test.YtcbgmkngkkajlaaLwXL
import Derived.Test.YtcbgmkngkkajlaaLwXA
import Derived.Test.YtcbgmkngkkajlaaSyE
import Derived.Test.YtcbgmkngkkajlaaRows
set_option linter.unusedVariables false
set_option linter.unusedSimpArgs false

section
namespace Go.Proofs.Ytcbgmkngkkajlaa
open Go Go.Sy Go.RowKit

theorem x22' {ν : Env Gh} (hI : ν.I = inM) (a b c d : SI) (l : SL) : (SG.app 22 (.var 0) (.var 0) a b c d l).den ν = ghL (iG (l.den ν) (a.den ν) (b.den ν) (c.den ν) (d.den ν)) := by simp [SG.den, hI, inM]
theorem qL_fold (M : List Int) (a N : Int) : ((iG (zG M a (3 * N + 3)) (a + 2) N 2 (N + 1)).set (a + 1).toNat 1).set a.toNat 1 = qL M a N := rfl
set_option maxRecDepth 100000 in
theorem ql_v (x : Bool × SV × PC) (hx : x ∈ rstQl ouQlv) (ν : Env Gh) (ρ : Nat → Nat) (hI : ν.I = inM) (hp : pcDen ν x.2.2) : x.1 = false ∧ x.2.1.den ν ρ = .bool true := by
  exfalso
  have x1 : ∀ l : SL, (SG.app 1 (.var 0) (.var 0) (.lit 0) (.lit 0) (.lit 0) (.lit 0) l).den ν = ghL (l.den ν) := fun l => lsX_den hI l
  simp only [rstQl, ouQlv, List.map_cons, List.map_nil, List.mem_cons, List.not_mem_nil, or_false] at hx
  repeat' (rcases hx with rfl | hx)
  all_goals (try subst hx)
  all_goals
    simp only [pcDen_cons_iff, pcDen_nil_iff, SB.den, Bool.and_eq_true, Bool.or_eq_true, Bool.and_eq_false_iff, Bool.or_eq_false_iff, Bool.not_eq_true', Bool.not_eq_false', beq_iff_eq, beq_eq_false_iff_ne, decide_eq_true_eq, decide_eq_false_iff_not] at hp
    simp only [SI.den, SL.den, x22' hI, x50 hI, x1, app2_den hI, lsX_den hI, hI, inM_gl, inM_gb, ghL_l, Int.toNat_natCast] at hp
    have hn : 1 ≤ ν.i 10 ∧ ν.i 10 ≤ 120 ∧ ((ν.l 0).length : Int) ≤ ν.i 10 := by omega
    obtain ⟨M, hMe, lM⟩ : ∃ M, ν.l 0 ++ List.drop (ν.l 0).length (List.replicate (ν.i 10).toNat (0 : Int)) = M ∧ (M.length : Int) = ν.i 10 := ⟨_, rfl, by simp only [List.length_append, List.length_drop, List.length_replicate]; omega⟩
    have eN : List.take (ν.i 10).toNat M = M := List.take_of_length_le (by omega)
    have eK : List.take M.length M = M := List.take_of_length_le (Nat.le_refl _)
    have eZ : ∀ a N, List.take M.length (qL M a N) = qL M a N := fun a N => List.take_of_length_le (by rw [qL_length]; exact Nat.le_refl _)
    simp only [hMe, eN, eK, qL_fold, eZ, qL_length, zG_length, iG_length, List.length_replicate] at hp
    first
      | omega
      | (exfalso; simp at hp; done)
      | (exfalso
         have eD : (ν.i 11 + (((((ν.i 12 + 1).toNat : Int) + ((2 * ν.i 12).toNat : Int)) + 1) + 1)).toNat = (ν.i 11).toNat + (3 * ν.i 12 + 3).toNat := by omega
         have eA := qL_all (M := M) (a := ν.i 11) (N := ν.i 12) (by omega) (by omega) (by omega)
         have eY : ∀ a N, List.take (ν.i 10).toNat (qL M a N) = qL M a N := fun a N => List.take_of_length_le (by rw [qL_length]; omega)
         simp only [List.cons_append, List.append_assoc] at eA
         (try simp only [List.cons_append, List.append_assoc] at hp)
         simp only [eD, eA, eZ, eY, qL_length] at hp
         first | omega | (simp at hp; done) | (simp at hp; omega))
set_option maxRecDepth 100000 in
theorem ql_n (x : Bool × SV × PC) (hx : x ∈ rstQl ouQln) (ν : Env Gh) (ρ : Nat → Nat) (hI : ν.I = inM) (hp : pcDen ν x.2.2) : x.1 = false ∧ x.2.1.den ν ρ = .bool true := by
  exfalso
  have x1 : ∀ l : SL, (SG.app 1 (.var 0) (.var 0) (.lit 0) (.lit 0) (.lit 0) (.lit 0) l).den ν = ghL (l.den ν) := fun l => lsX_den hI l
  simp only [rstQl, ouQln, List.map_cons, List.map_nil, List.mem_cons, List.not_mem_nil, or_false] at hx
  repeat' (rcases hx with rfl | hx)
  all_goals (try subst hx)
  all_goals
    simp only [pcDen_cons_iff, pcDen_nil_iff, SB.den, Bool.and_eq_true, Bool.or_eq_true, Bool.and_eq_false_iff, Bool.or_eq_false_iff, Bool.not_eq_true', Bool.not_eq_false', beq_iff_eq, beq_eq_false_iff_ne, decide_eq_true_eq, decide_eq_false_iff_not] at hp
    simp only [SI.den, SL.den, x22' hI, x50 hI, x1, app2_den hI, lsX_den hI, hI, inM_gl, inM_gb, ghL_l, Int.toNat_natCast] at hp
    have hn : 1 ≤ ν.i 10 ∧ ν.i 10 ≤ 120 := by omega
    obtain ⟨M, hMe, lM⟩ : ∃ M, List.replicate (ν.i 10).toNat (0 : Int) = M ∧ (M.length : Int) = ν.i 10 := ⟨_, rfl, by simp only [List.length_replicate]; omega⟩
    have eN : List.take (ν.i 10).toNat M = M := List.take_of_length_le (by omega)
    have eK : List.take M.length M = M := List.take_of_length_le (Nat.le_refl _)
    have eZ : ∀ a N, List.take M.length (qL M a N) = qL M a N := fun a N => List.take_of_length_le (by rw [qL_length]; exact Nat.le_refl _)
    simp only [hMe, eN, eK, qL_fold, eZ, qL_length, zG_length, iG_length, List.length_replicate] at hp
    first
      | omega
      | (exfalso; simp at hp; done)
      | (exfalso
         have eD : (ν.i 11 + (((((ν.i 12 + 1).toNat : Int) + ((2 * ν.i 12).toNat : Int)) + 1) + 1)).toNat = (ν.i 11).toNat + (3 * ν.i 12 + 3).toNat := by omega
         have eA := qL_all (M := M) (a := ν.i 11) (N := ν.i 12) (by omega) (by omega) (by omega)
         have eY : ∀ a N, List.take (ν.i 10).toNat (qL M a N) = qL M a N := fun a N => List.take_of_length_le (by rw [qL_length]; omega)
         simp only [List.cons_append, List.append_assoc] at eA
         (try simp only [List.cons_append, List.append_assoc] at hp)
         simp only [eD, eA, eZ, eY, qL_length] at hp
         first | omega | (simp at hp; done) | (simp at hp; omega))
set_option maxRecDepth 100000 in
theorem ql_e (x : Bool × SV × PC) (hx : x ∈ rstQl ouQle) (ν : Env Gh) (ρ : Nat → Nat) (hI : ν.I = inM) (hp : pcDen ν x.2.2) : x.1 = false ∧ x.2.1.den ν ρ = .bool true := by
  exfalso
  have x1 : ∀ l : SL, (SG.app 1 (.var 0) (.var 0) (.lit 0) (.lit 0) (.lit 0) (.lit 0) l).den ν = ghL (l.den ν) := fun l => lsX_den hI l
  simp only [rstQl, ouQle, List.map_cons, List.map_nil, List.mem_cons, List.not_mem_nil, or_false] at hx
  repeat' (rcases hx with rfl | hx)
  all_goals (try subst hx)
  all_goals
    simp only [pcDen_cons_iff, pcDen_nil_iff, SB.den, Bool.and_eq_true, Bool.or_eq_true, Bool.and_eq_false_iff, Bool.or_eq_false_iff, Bool.not_eq_true', Bool.not_eq_false', beq_iff_eq, beq_eq_false_iff_ne, decide_eq_true_eq, decide_eq_false_iff_not] at hp
    simp only [SI.den, SL.den, x22' hI, x50 hI, x1, app2_den hI, lsX_den hI, hI, inM_gl, inM_gb, ghL_l, Int.toNat_natCast] at hp
    have hn : 1 ≤ ν.i 10 ∧ ν.i 10 ≤ 120 := by omega
    obtain ⟨M, hMe, lM⟩ : ∃ M, List.replicate (ν.i 10).toNat (0 : Int) = M ∧ (M.length : Int) = ν.i 10 := ⟨_, rfl, by simp only [List.length_replicate]; omega⟩
    have eN : List.take (ν.i 10).toNat M = M := List.take_of_length_le (by omega)
    have eK : List.take M.length M = M := List.take_of_length_le (Nat.le_refl _)
    have eZ : ∀ a N, List.take M.length (qL M a N) = qL M a N := fun a N => List.take_of_length_le (by rw [qL_length]; exact Nat.le_refl _)
    simp only [hMe, eN, eK, qL_fold, eZ, qL_length, zG_length, iG_length, List.length_replicate] at hp
    first
      | omega
      | (exfalso; simp at hp; done)
      | (exfalso
         have eD : (ν.i 11 + (((((ν.i 12 + 1).toNat : Int) + ((2 * ν.i 12).toNat : Int)) + 1) + 1)).toNat = (ν.i 11).toNat + (3 * ν.i 12 + 3).toNat := by omega
         have eA := qL_all (M := M) (a := ν.i 11) (N := ν.i 12) (by omega) (by omega) (by omega)
         have eY : ∀ a N, List.take (ν.i 10).toNat (qL M a N) = qL M a N := fun a N => List.take_of_length_le (by rw [qL_length]; omega)
         simp only [List.cons_append, List.append_assoc] at eA
         (try simp only [List.cons_append, List.append_assoc] at hp)
         simp only [eD, eA, eZ, eY, qL_length] at hp
         first | omega | (simp at hp; done) | (simp at hp; omega))
end Go.Proofs.Ytcbgmkngkkajlaa
end

section
namespace Go.Proofs.Ytcbgmkngkkajlaa
open Go.ChangeShapes Go.WideShapes Go.ChangeAt Go.RowKit Go.Sy

theorem trodAll_three {H : Type} {enc : TypeId × Value → H} {P : Program} {w : World} {base : Nat} {spare : Nat → Bool} {held : Bool} {t t' t2 : TypeId} {args : Array Value} {ds : List (DataW H)} {ps : List MemPlace} (h : DataW.TrodAll enc P w base spare held [t, t', t2] args.toList ds ps) :
    ∃ v v' v2 d d' d2 p p' p2, args = #[v, v', v2] ∧ ds = [d, d', d2] ∧ DataW.Trod enc P w base spare held t v d p ∧ DataW.Trod enc P w base spare held t' v' d' p' ∧ DataW.Trod enc P w base spare held t2 v2 d2 p2 := by
  obtain ⟨v, vs, d, ds', p, q, hargs, rfl, rfl, hd, hrest⟩ := trodAll_cons h
  obtain ⟨v', vs', d', e2, p', q', rfl, rfl, rfl, hd', hrest'⟩ := trodAll_cons hrest
  obtain ⟨v2, vs2, d2, e3, p2, q2, rfl, rfl, rfl, hd2, hrest2⟩ := trodAll_cons hrest'
  obtain ⟨rfl, rfl, rfl⟩ := trodAll_nil hrest2
  exact ⟨v, v', v2, d, d', d2, p, p', p2, by cases args; simp_all, rfl, hd, hd', hd2⟩
theorem cellsU64 : Try.prog.cellsOf 46 = 1 := by kernel_rfl
theorem cellsAr : Try.prog.cellsOf 24 = 2 := by kernel_rfl
set_option maxRecDepth 100000 in
theorem arg_row {H : Type} {enc : TypeId × Value → H} {W : World} {base : Nat} {spare : Nat → Bool} {held : Bool} {r : Reach} {b0 : Nat} {v : Value} {d : DataW H} {ps : List MemPlace} (hok : Value.okWide Try.prog W r b0 24 v)
    (h : DataW.Trod enc Try.prog W base spare held 24 v d ps) : ∃ (a c : Int), v = .agg #[.int .i64 a, .int .i64 c] := by
  obtain ⟨v0, v1, y0, y1, n, rfl, _, _, h0, h1⟩ := Go.Joins.open_agg2 Try.underlying24 (by kernel_rfl) cellsAr hok h
  obtain ⟨a, e0, _, w0⟩ := DataW.trod_int Try.underlying3 h0
  obtain ⟨c, e1, _, w1⟩ := DataW.trod_int Try.underlying3 h1
  simp only [List.cons.injEq, and_true] at e0 e1
  subst e0 e1
  exact ⟨a, c, rfl⟩

def envG (i : Nat → Int) (l : Nat → List Int) : Env Gh := ⟨inM, fun _ => ghL [], i, fun _ => false, fun _ => .bool false, l, noAddr, fun _ => rfl⟩
def ilI (n a c o cap : Int) : Nat → Int | 10 => n | 11 => a | 12 => c | 8 => o | 9 => cap | _ => 0

set_option maxRecDepth 100000 in
theorem queueInits_lifted (os : Os) (started : os.Started) (H : Type) (enc : TypeId × Value → H) :
    ReturnsInHanded {} Try.checked os 3 .any (Rows.queueInitsSpec.pre6 enc Try.prog Try.f3 Rows.queueInitsRow.domain false) (Rows.queueInitsSpec.post enc Try.prog Try.f3 false true false false) := by
  refine law_lifted (C := Try.checked) facts own started (by kernel_rfl) Try.func3
    (ChangeSpec.witness6 (enc := enc) (C := Try.checked) false ⟨#[], #[.int .i64 0, .slice none 0 0, .agg #[.int .i64 0, .int .i64 0]], []⟩ 8 (by kernel_rfl) (by kernel_rfl) (by kernel_rfl) (by kernel_rfl)) rfl (fun ds h => ?_) Try.underlying4 (by kernel_rfl) (by kernel_rfl) fun W base args ds p hval hA hlt => ?_
  · rw [Try.params3] at h
    match ds, h with
    | [d, e, f], _ => rfl
  rw [Try.params3] at hA hval
  obtain ⟨v0, v1, v2, d0, d1, d2, p0, p1, p2, rfl, rfl, h0, h1, h2⟩ := trodAll_three hA
  obtain ⟨n, rfl, _, _, _⟩ := open_int Try.underlying3 (hval 0 3 v0 rfl rfl) h0
  obtain ⟨a, c, rfl⟩ := arg_row (hval 2 24 v2 rfl rfl) h2
  rcases arg_ints Try.underlying22 Try.underlying46 cellsU64 (hval 1 22 v1 rfl rfl) h1 with rfl | ⟨ad, rfl⟩ | ⟨g, o, cap, xs, rfl, hg, hcap, _, hcell, _⟩
  · exact law_rest pr oQl_ok runQln W (envG (ilI n a c 0 0) (fun _ => [])) (fun _ => 0) rfl (pcDen_nil _) (HW.empty _ _ _) fun x hx ν' ρ' hag hp => ql_n x hx ν' ρ' hag.I hp
  · exact law_rest pr oQl_ok runQle W ⟨inM, fun _ => ghL [], ilI n a c 0 0, fun _ => false, fun _ => .bool false, fun _ => [], fun _ => ad, fun _ => rfl⟩ (fun _ => 0) rfl (pcDen_nil _) (HW.empty _ _ _) fun x hx ν' ρ' hag hp => ql_e x hx ν' ρ' hag.I hp
  · exact law_rest pr oQl_ok runQlv W (envG (ilI n a c o cap) (fun _ => xs)) (fun _ => g) rfl
      (pcDen_cons (by simp [SB.den, SI.den, envG, ilI]) (pcDen_one (by simp only [SB.den, SI.den, SL.den, envG, ilI, decide_eq_false_iff_not]; omega)))
      ((HW.empty _ _ _).addView (by simp) (by rw [baseOf_own]; omega) (by simp [SI.den, envG, ilI]) (by simpa [SI.den, SL.den, envG, ilI, baseOf] using hcell))
      fun x hx ν' ρ' hag hp => ql_v x hx ν' ρ' hag.I hp

theorem queueInits_joined : joinedFacts Try.prog 3 Try.f3 Rows.queueInitsSpec Rows.queueInitsRow = true :=
  joined_of facts (by kernel_rfl) ⟨rfl, rfl, rfl, rfl, rfl, rfl⟩ (by kernel_rfl) (by kernel_rfl) (by kernel_rfl) (by kernel_rfl) (by kernel_rfl) (by kernel_rfl) (by kernel_rfl) ⟨by kernel_rfl, by kernel_rfl⟩ (by kernel_rfl)

theorem queueInits_holds : Rows.QueueInitsSaid :=
  OpenClaim.holds_of_wide 3 Try.f3 rfl rfl rfl rfl rfl rfl rfl ⟨rfl, rfl, rfl, rfl, rfl⟩ rfl rfl rfl rfl rfl (by kernel_rfl) Try.func3 queueInits_joined
    (of_decide_eq_true (by kernel_rfl)) (by unfold Func.isWrapper; first | (rw [if_pos (by decide +kernel)]; kernel_rfl) | (rw [if_neg (by decide +kernel)]; exact ⟨rfl, rfl⟩))
    (fun os started H enc _ => queueInits_lifted os started H enc)
#print axioms queueInits_holds
end Go.Proofs.Ytcbgmkngkkajlaa
end
