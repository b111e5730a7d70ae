/- 'coachyardlaw03.CellsFill' returns true for every size, every list and every access, and leaves all that was there as it was. -/
import Derived.Test.YtoogepoalbhlhaaLwCellsFillA
import Derived.Test.YtoogepoalbhlhaaLwArgs
import Derived.Test.YtoogepoalbhlhaaSy26
import Derived.Test.YtoogepoalbhlhaaRows
set_option linter.unusedVariables false
set_option linter.unusedSimpArgs false
namespace Go.Proofs.Ytoogepoalbhlhaa
open Go.ChangeShapes Go.WideShapes Go.ChangeAt Go.RowKit Go.Sy

theorem lcomm (a b : List Int) : (a == b) = (b == a) := by rw [Bool.eq_iff_iff, beq_iff_eq, beq_iff_eq]; exact eq_comm

set_option maxRecDepth 100000 in
theorem fill_rest (x : Bool × SV × PC) (hx : restFill.elim False (x ∈ ·)) (ν : Env Gh) (ρ : Nat → Nat) (hI : ν.I = inM) (hp : pcDen ν x.2.2) : x.1 = false ∧ x.2.1.den ν ρ = .bool true := by
  have hB : (ν.l 0).length ≤ (ν.i 10).toNat → List.take (ν.i 10).toNat (ν.l 0 ++ List.drop (ν.l 0).length (List.replicate (ν.i 10).toNat 0)) = ν.l 0 ++ List.drop (ν.l 0).length (List.replicate (ν.i 10).toNat 0) :=
    fun h => List.take_of_length_le (by simp only [List.length_append, List.length_drop, List.length_replicate]; omega)
  have hD : ∀ l : List Int, l.length = (ν.i 10).toNat → List.take (ν.i 10).toNat (doG (ν.i 0) (ν.i 1) (ν.i 2) (ν.i 3) l).l = (doG (ν.i 0) (ν.i 1) (ν.i 2) (ν.i 3) l).l := fun l h => List.take_of_length_le (by rw [doG_length]; omega)
  have hD' : ∀ l : List Int, List.take l.length (doG (ν.i 0) (ν.i 1) (ν.i 2) (ν.i 3) l).l = (doG (ν.i 0) (ν.i 1) (ν.i 2) (ν.i 3) l).l := fun l => List.take_of_length_le (by rw [doG_length]; exact Nat.le_refl _)
  have hR := hD (List.replicate (ν.i 10).toNat 0) List.length_replicate
  have hBl : (ν.l 0).length ≤ (ν.i 10).toNat → (ν.l 0 ++ List.drop (ν.l 0).length (List.replicate (ν.i 10).toNat 0)).length = (ν.i 10).toNat := fun h => by simp only [List.length_append, List.length_drop, List.length_replicate]; omega
  simp only [restFill, Option.elim_some, List.mem_cons, List.not_mem_nil, or_false] at hx
  rcases hx with rfl | rfl | rfl | rfl | rfl | rfl | rfl | rfl | rfl | rfl | rfl | rfl | rfl | rfl | rfl | rfl | rfl | rfl | rfl | rfl | rfl | rfl | rfl | rfl | rfl | rfl | rfl | rfl | rfl | rfl | rfl | rfl | rfl | rfl | rfl
  all_goals
    simp only [pcDen_cons_iff, pcDen_nil_iff, SB.den, beq_iff_eq, beq_eq_false_iff_ne, decide_eq_true_eq, decide_eq_false_iff_not] at hp
    simp only [SI.den, SL.den, baF, doX_den hI, app2_den hI, lsX_den hI, hI, inM_gl, inM_gb, inM_gi0, inM_gi1, ghL_l, Int.toNat_natCast] at hp
    first
      | (exfalso; omega)
      | (exfalso; simp only [List.length_take, List.length_append, List.length_drop, List.length_replicate, doG_length] at hp; omega)
      | (exfalso; simp only [hR] at hp; first | exact hp.1 (lcomm _ _) | exact hp.1 rfl)
      | (refine ⟨rfl, ?_⟩
         simp only [SV.den, SB.den, SI.den, SL.den, baF, doX_den hI, app2_den hI, lsX_den hI, hI, inM_gl, inM_gb, inM_gi0, inM_gi1, ghL_l, Int.toNat_natCast, hR]
         first
           | (simp; done)
           | (rw [lcomm]; simp; done))
      | (have hle : (ν.l 0).length ≤ (ν.i 10).toNat := by omega
         have h1 := hB hle
         have h2 := hD _ (hBl hle)
         have h3 := hD' (ν.l 0 ++ List.drop (ν.l 0).length (List.replicate (ν.i 10).toNat 0))
         exfalso
         simp only [h1, h2, h3] at hp
         first
           | exact hp.1 (lcomm _ _)
           | exact hp.1 rfl
           | (simp at hp; done))
      | (have hle : (ν.l 0).length ≤ (ν.i 10).toNat := by omega
         have h1 := hB hle
         have h2 := hD _ (hBl hle)
         have h3 := hD' (ν.l 0 ++ List.drop (ν.l 0).length (List.replicate (ν.i 10).toNat 0))
         refine ⟨rfl, ?_⟩
         simp only [SV.den, SB.den, SI.den, SL.den, baF, doX_den hI, app2_den hI, lsX_den hI, hI, inM_gl, inM_gb, inM_gi0, inM_gi1, ghL_l, Int.toNat_natCast, h1, h2, h3]
         first
           | (simp; done)
           | (rw [lcomm]; simp; done))

set_option maxRecDepth 100000 in
theorem fillN_rest (x : Bool × SV × PC) (hx : restFillN.elim False (x ∈ ·)) (ν : Env Gh) (ρ : Nat → Nat) (hI : ν.I = inM) (hp : pcDen ν x.2.2) : x.1 = false ∧ x.2.1.den ν ρ = .bool true := by
  have hD : ∀ l : List Int, l.length = (ν.i 10).toNat → List.take (ν.i 10).toNat (doG (ν.i 0) (ν.i 1) (ν.i 2) (ν.i 3) l).l = (doG (ν.i 0) (ν.i 1) (ν.i 2) (ν.i 3) l).l := fun l h => List.take_of_length_le (by rw [doG_length]; omega)
  have hR := hD (List.replicate (ν.i 10).toNat 0) List.length_replicate
  simp only [restFillN, Option.elim_some, List.mem_cons, List.not_mem_nil, or_false] at hx
  rcases hx with rfl | rfl | rfl | rfl | rfl | rfl | rfl | rfl | rfl | rfl | rfl
  all_goals
    simp only [pcDen_cons_iff, pcDen_nil_iff, SB.den, beq_iff_eq, beq_eq_false_iff_ne, decide_eq_true_eq, decide_eq_false_iff_not] at hp
    simp only [SI.den, SL.den, baF, doX_den hI, app2_den hI, lsX_den hI, hI, inM_gl, inM_gb, inM_gi0, inM_gi1, ghL_l, Int.toNat_natCast] at hp
    first
      | (exfalso; omega)
      | (exfalso; simp only [List.length_take, List.length_append, List.length_drop, List.length_replicate, doG_length] at hp; omega)
      | (exfalso; simp only [hR] at hp; first | exact hp.1 (lcomm _ _) | exact hp.1 rfl)
      | (refine ⟨rfl, ?_⟩
         simp only [SV.den, SB.den, SI.den, SL.den, baF, doX_den hI, app2_den hI, lsX_den hI, hI, inM_gl, inM_gb, inM_gi0, inM_gi1, ghL_l, Int.toNat_natCast, hR]
         first
           | (simp; done)
           | (rw [lcomm]; simp; done))

def fillI (k c a b o cap n : Int) : Nat → Int | 0 => k | 1 => c | 2 => a | 3 => b | 8 => o | 9 => cap | _ => n

set_option maxRecDepth 100000 in
theorem cellsFill_lifted (os : Os) (started : os.Started) (H : Type) (enc : TypeId × Value → H) :
    ReturnsInHanded {} Try.checked os 6 .any (Rows.cellsFillSpec.pre6 enc Try.prog Try.f6 Rows.cellsFillRow.domain false) (Rows.cellsFillSpec.post enc Try.prog Try.f6 false true false false) := by
  refine law_lifted (C := Try.checked) facts own started (by kernel_rfl) Try.func6
    (ChangeSpec.witness6 (enc := enc) (C := Try.checked) false ⟨#[], #[.int .i64 0, .slice none 0 0, .agg #[.int .i64 0, .int .i64 0, .int .u64 0, .int .u64 0]], []⟩ 8 (by kernel_rfl) (by kernel_rfl) (by kernel_rfl) (by kernel_rfl)) rfl (fun ds h => ?_) Try.underlying4 (by kernel_rfl) (by kernel_rfl) fun W base args ds p hval hA hlt => ?_
  · rw [Try.params6] at h
    match ds, h with
    | [d, e, f], _ => rfl
  rw [Try.params6] at hA hval
  obtain ⟨v0, v1, v2, d0, d1, d2, p0, p1, p2, rfl, rfl, rfl, h0, h1, h2⟩ := trodAll_three hA
  obtain ⟨n, rfl, rfl, rfl, _⟩ := open_int Try.underlying3 (hval 0 3 v0 rfl rfl) h0
  obtain ⟨k, c, a, b, rfl, _⟩ := arg_access (hval 2 55 v2 rfl rfl) h2
  rcases arg_ints Try.underlying50 Try.underlying51 cellsU64 (hval 1 50 v1 rfl rfl) h1 with rfl | ⟨ad, rfl⟩ | ⟨g, o, cap, xs, rfl, hg, _, _, hcell, _⟩
  · exact law_rest pr orFn_ok (run6n.trans rfl) W (envG (fillI k c a b 0 0 n) (fun _ => [])) (fun _ => 0) rfl (pcDen_nil _) (HW.empty _ _ _) fun x hx ν' ρ' hag hp => fillN_rest x hx ν' ρ' hag.I hp
  · exact law_rest pr orFe_ok (run6e.trans rfl) W ⟨inM, fun _ => ghL [], fillI k c a b 0 0 n, fun _ => false, fun _ => .bool false, fun _ => [], fun _ => ad, fun _ => rfl⟩ (fun _ => 0) rfl (pcDen_nil _) (HW.empty _ _ _) fun x hx ν' ρ' hag hp => fillN_rest x hx ν' ρ' hag.I hp
  · exact law_rest pr orF_ok (run6v.trans rfl) W (envG (fillI k c a b o cap n) (fun _ => xs)) (fun _ => g) rfl (pcDen_one (by simp [SB.den, SI.den, envG, fillI]))
      ((HW.empty _ _ _).addView (by simp) (by rw [baseOf_own]; omega) (by simp [SI.den, envG, fillI]) (by simpa [SI.den, SL.den, envG, fillI, baseOf] using hcell))
      fun x hx ν' ρ' hag hp => fill_rest x hx ν' ρ' hag.I hp

theorem cellsFill_joined : joinedFacts Try.prog 6 Try.f6 Rows.cellsFillSpec Rows.cellsFillRow = true :=
  joined_of facts (by kernel_rfl) ⟨rfl, rfl, rfl, rfl, rfl, rfl⟩ (by kernel_rfl) (by kernel_rfl) (by kernel_rfl) (by kernel_rfl) (by kernel_rfl) (by kernel_rfl) (by kernel_rfl) ⟨by kernel_rfl, by kernel_rfl⟩ (by kernel_rfl)

theorem cellsFill_holds : Rows.CellsFillSaid :=
  OpenClaim.holds_of_wide 6 Try.f6 rfl rfl rfl rfl rfl rfl rfl ⟨rfl, rfl, rfl, rfl, rfl⟩ rfl rfl rfl rfl rfl (by kernel_rfl) Try.func6 cellsFill_joined
    (of_decide_eq_true (by kernel_rfl)) (by unfold Func.isWrapper; first | (rw [if_pos (by decide +kernel)]; kernel_rfl) | (rw [if_neg (by decide +kernel)]; exact ⟨rfl, rfl⟩))
    (fun os started H enc _ => cellsFill_lifted os started H enc)
#print axioms cellsFill_holds
end Go.Proofs.Ytoogepoalbhlhaa
