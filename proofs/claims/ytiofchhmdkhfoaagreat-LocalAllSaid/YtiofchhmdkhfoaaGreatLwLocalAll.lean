/- The law coachyardlaw13.LocalAll: what is left to say. -/
import Derived.Test.YtiofchhmdkhfoaaGreatLwLcZ00
import Derived.Test.YtiofchhmdkhfoaaGreatLwLcZ06
import Derived.Test.YtiofchhmdkhfoaaGreatLwLcZ08
import Derived.Test.YtiofchhmdkhfoaaGreatLwLcZ10
import Derived.Test.YtiofchhmdkhfoaaGreatLwLcZ16
import Derived.Test.YtiofchhmdkhfoaaGreatLwLcZ18
import Derived.Test.YtiofchhmdkhfoaaGreatLwA13
import Derived.Test.YtiofchhmdkhfoaaGreatLwLcQ0
import Derived.Test.YtiofchhmdkhfoaaGreatLwLcQ1
import Derived.Test.YtiofchhmdkhfoaaGreatLwXA
import Derived.Test.YtiofchhmdkhfoaaGreatSyXE
import Derived.Test.YtiofchhmdkhfoaaGreatRows
set_option linter.unusedVariables false
set_option linter.unusedSimpArgs false

section
namespace Go.Proofs.YtiofchhmdkhfoaaGreat
open Go Go.Sy Go.RowKit

theorem oLc_ok : OOK Tryz.prog (oLc Tryz.prog) inM := pruned_ok pr (same_ok (ref82_ok (ref72_ok (rightS7_ok (rg2_ok (dq2_ok (awake13_ok (opInvoke_ok pr (opIface_ok (opLoadS_ok (opAppendW_ok (opSliceT_ok noOrac_ok))))))))))))
theorem runC0 {k : Nat} (h : k < 10) : restOf (runX Tryz.prog (oLc Tryz.prog) fLc (argsLc (.lit 0) vwLc) (wayLc 0 k) hpLc) = some (rstC0 k) := by
  match k, h with
  | 0, _ => exact runC00
  | 1, _ => exact runC01
  | 2, _ => exact runC02
  | 3, _ => exact runC03
  | 4, _ => exact runC04
  | 5, _ => exact runC05
  | 6, _ => exact runC06
  | 7, _ => exact runC07
  | 8, _ => exact runC08
  | 9, _ => exact runC09
theorem runC1 {k : Nat} (h : k < 10) : restOf (runX Tryz.prog (oLc Tryz.prog) fLc (argsLc (.lit 1) vwLc) (wayLc 1 k) hpLc) = some (rstC1 k) := by
  match k, h with
  | 0, _ => exact runC10
  | 1, _ => exact runC11
  | 2, _ => exact runC12
  | 3, _ => exact runC13
  | 4, _ => exact runC14
  | 5, _ => exact runC15
  | 6, _ => exact runC16
  | 7, _ => exact runC17
  | 8, _ => exact runC18
  | 9, _ => exact runC19
/-- One of the ways it is. -/
theorem wayC_den (kd : Nat) (ν : Env Gh) (h : pcDen ν pcLc) : ∃ k, k < 10 ∧ pcDen ν (wayLc kd k) := by
  have t : ∀ c : SB, c.den ν = true ∨ c.den ν = false := fun c => by cases c.den ν <;> simp
  have mk : ∀ {k : Nat} {p : PC}, (waysLc kd)[k]? = some p → k < 10 → pcDen ν p → ∃ k, k < 10 ∧ pcDen ν (wayLc kd k) := fun {k p} hk hl hp => ⟨k, hl, by unfold wayLc; rw [hk]; exact pcDen_append hp h⟩
  have g1 : c1.den ν = true ↔ ν.i 11 < 2 := by simp only [c1, SB.den]; exact decide_eq_true_iff
  have g2 : c2.den ν = true ↔ 256 < ν.i 11 := by simp only [c2, SB.den]; exact decide_eq_true_iff
  have g3 : c3.den ν = true ↔ Pow (ν.i 11) := by have := powB_den ν (.var 11); simp only [SI.den] at this; exact this
  have g4 : ¬ ν.i 11 < 2 → ¬ 256 < ν.i 11 → (c3b.den ν = true ↔ Pow (ν.i 11)) := fun a b => by
    have w : IntKind.i64.wrap (ν.i 11 - 1) = ν.i 11 - 1 := wrapS _ (by omega) (by omega)
    have h := bits_iff (ν.i 11) (by omega) (by omega)
    rw [w] at h
    rw [← h]
    simp only [c3b, SB.den, SI.den, beq_iff_eq]
  have no : ∀ {c : SB} {p : Prop}, (c.den ν = true ↔ p) → ¬ p → c.den ν = false := fun {c p} h hn => by
    rcases t c with q | q
    · exact (hn (h.1 q)).elim
    · exact q
  by_cases p1 : ν.i 11 < 2
  · exact mk (k := 0) rfl (by decide) (pcDen_cons (no g3 fun h => by unfold Pow at h; omega) (pcDen_one (g1.2 p1)))
  have n1 := no g1 p1
  by_cases p2 : 256 < ν.i 11
  · exact mk (k := 1) rfl (by decide) (pcDen_cons (no g3 fun h => by unfold Pow at h; omega) (pcDen_cons (g2.2 p2) (pcDen_one n1)))
  have n2 := no g2 p2
  by_cases p3 : Pow (ν.i 11)
  case neg => exact mk (k := 2) rfl (by decide) (pcDen_cons (no (g4 p1 p2) p3) (pcDen_cons (no g3 p3) (pcDen_cons n2 (pcDen_one n1))))
  have hp : pcDen ν powLc := pcDen_cons ((g4 p1 p2).2 p3) (pcDen_cons (g3.2 p3) (pcDen_cons n2 (pcDen_one n1)))
  rcases t c4 with a | a
  · exact mk (k := 3) rfl (by decide) (pcDen_cons a hp)
  rcases t c5 with b | b
  case inr => exact mk (k := 4) rfl (by decide) (pcDen_cons b (pcDen_cons a hp))
  rcases t c6 with r | r
  case inr => exact mk (k := 5) rfl (by decide) (pcDen_cons r (pcDen_cons b (pcDen_cons a hp)))
  have hf : pcDen ν fitLc := pcDen_cons r (pcDen_cons b (pcDen_cons a hp))
  rcases t (.lt (.var 11) (manyC kd)) with c | c
  · exact mk (k := 6) rfl (by decide) (pcDen_cons c hf)
  rcases t (.lt (manyC kd) (lowC kd)) with d | d
  · exact mk (k := 7) rfl (by decide) (pcDen_cons d (pcDen_cons c hf))
  rcases t (.lt (.lit 0) (manyC kd)) with e | e
  · exact mk (k := 9) rfl (by decide) (pcDen_cons e (pcDen_cons d (pcDen_cons c hf)))
  · exact mk (k := 8) rfl (by decide) (pcDen_cons e (pcDen_cons d (pcDen_cons c hf)))
end Go.Proofs.YtiofchhmdkhfoaaGreat
end

section
namespace Go.Proofs.YtiofchhmdkhfoaaGreat
open Go.ChangeShapes Go.WideShapes Go.ChangeAt Go.RowKit Go.Sy

theorem cellsU64 : Tryz.prog.cellsOf 41 = 1 := by kernel_rfl
theorem cellsLc : Tryz.prog.cellsOf 24 = 3 := by kernel_rfl
set_option maxRecDepth 100000 in
theorem arg_row3 {H : Type} {enc : TypeId × Value → H} {W : World} {base : Nat} {spare : Nat → Bool} {held : Bool} {r : Reach} {b0 : Nat} {v : Value} {d : DataW H} {ps : List MemPlace} (hok : Value.okWide Tryz.prog W r b0 24 v)
    (h : DataW.Trod enc Tryz.prog W base spare held 24 v d ps) : ∃ (a b c : Int), v = .agg #[.int .i64 a, .int .i64 b, .int .i64 c] := by
  have hop := Go.Joins.open_agg3 Tryz.underlying24 (by kernel_rfl) cellsLc hok h
  obtain ⟨v0, v1, v2, y0, y1, y2, n, rfl, _, _, h0, h1, h2⟩ := hop
  obtain ⟨a, e0, _, w0⟩ := DataW.trod_int Tryz.underlying3 h0
  obtain ⟨b, e1, _, w1⟩ := DataW.trod_int Tryz.underlying3 h1
  obtain ⟨c, e2, _, w2⟩ := DataW.trod_int Tryz.underlying3 h2
  simp only [List.cons.injEq, and_true] at e0 e1 e2
  subst e0 e1 e2
  exact ⟨a, b, c, rfl⟩

def envG (i : Nat → Int) (l : Nat → List Int) : Env Gh := ⟨inM, fun _ => ghL [], i, fun _ => false, fun _ => .bool false, l, noAddr, fun _ => rfl⟩
def lcI (kd a c o cap : Int) : Nat → Int | 13 => kd | 10 => a | 11 => c | 8 => o | 9 => cap | _ => 0

set_option maxRecDepth 100000 in
theorem localAll_lifted (os : Os) (started : os.Started) (H : Type) (enc : TypeId × Value → H) :
    ReturnsInHanded {} Tryz.checked os 3 .any (Rows.localAllSpec.pre6 enc Tryz.prog Tryz.f3 Rows.localAllRow.domain false) (Rows.localAllSpec.post enc Tryz.prog Tryz.f3 false true false false) := by
  refine law_lifted (C := Tryz.checked) facts own started (by kernel_rfl) Tryz.func3
    (ChangeSpec.witness6 (enc := enc) (C := Tryz.checked) false ⟨#[], #[.slice none 0 0, .agg #[.int .i64 0, .int .i64 0, .int .i64 0]], []⟩ 8 (by kernel_rfl) (by kernel_rfl) (by kernel_rfl) (by kernel_rfl)) rfl (fun ds h => ?_) Tryz.underlying4 (by kernel_rfl) (by kernel_rfl) fun W base args ds p hval hA hlt => ?_
  · rw [Tryz.params3] at h
    match ds, h with
    | [d, e], _ => rfl
  rw [Tryz.params3] at hA hval
  obtain ⟨v0, v1, d0, d1, p0, p1, rfl, rfl, rfl, h0, h1⟩ := trodAll_two hA
  obtain ⟨kd, a, c, rfl⟩ := arg_row3 (hval 1 24 v1 rfl rfl) h1
  rcases arg_ints Tryz.underlying22 Tryz.underlying41 cellsU64 (hval 0 22 v0 rfl rfl) h0 with rfl | ⟨ad, rfl⟩ | ⟨g, o, cap, xs, rfl, hg, hcap, _, hcell, _⟩
  · exact law_auto pr oLc_ok runCn W (envG (lcI kd a c 0 0) (fun _ => [])) (fun _ => 0) rfl (pcDen_nil _) (HW.empty _ _ _)
  · exact law_auto pr oLc_ok runCe W ⟨inM, fun _ => ghL [], lcI kd a c 0 0, fun _ => false, fun _ => .bool false, fun _ => [], fun _ => ad, fun _ => rfl⟩ (fun _ => 0) rfl (pcDen_nil _) (HW.empty _ _ _)
  · have hb : pcDen (envG (lcI kd a c o cap) (fun _ => xs)) pcLc := pcDen_cons (by simp [SB.den, SI.den, envG, lcI]) (pcDen_one (by simp only [SB.den, SI.den, SL.den, envG, lcI, decide_eq_false_iff_not]; omega))
    have hw : HW (baseOf W) (envG (lcI kd a c o cap) (fun _ => xs)) (fun _ => g) hpLc W := (HW.empty _ _ _).addView (by simp) (by rw [baseOf_own]; omega) (by simp [SI.den, envG, lcI]) (by simpa [SI.den, SL.den, envG, lcI, baseOf] using hcell)
    by_cases k0 : kd = 0
    · subst k0
      obtain ⟨k, hk, hpc⟩ := wayC_den 0 _ hb
      exact law_rest pr oLc_ok (runC0 hk) W (envG (lcI 0 a c o cap) (fun _ => xs)) (fun _ => g) rfl hpc hw
        fun x hx ν' ρ' hag hp => lc0_rest hk x hx ν' ρ' hag.I (by rw [hag.l 0 (by kernel_rfl), hag.i 9 (by kernel_rfl)]; simp only [envG, lcI]; omega) hp
    by_cases k1 : kd = 1
    · subst k1
      obtain ⟨k, hk, hpc⟩ := wayC_den 1 _ hb
      exact law_rest pr oLc_ok (runC1 hk) W (envG (lcI 1 a c o cap) (fun _ => xs)) (fun _ => g) rfl hpc hw
        fun x hx ν' ρ' hag hp => lc1_rest hk x hx ν' ρ' hag.I (by rw [hag.l 0 (by kernel_rfl), hag.i 9 (by kernel_rfl)]; simp only [envG, lcI]; omega) hp
    · refine law_auto pr oLc_ok runCx W (envG (lcI kd a c o cap) (fun _ => xs)) (fun _ => g) rfl (pcDen_append (pcDen_cons ?_ (pcDen_one ?_)) hb) hw
      · simp [SB.den, SI.den, envG, lcI, k0]
      · simp [SB.den, SI.den, envG, lcI, k1]

theorem localAll_joined : joinedFacts Tryz.prog 3 Tryz.f3 Rows.localAllSpec Rows.localAllRow = true :=
  joined_of facts (by kernel_rfl) ⟨rfl, rfl, rfl, rfl, rfl, rfl⟩ (by kernel_rfl) (by kernel_rfl) (by kernel_rfl) (by kernel_rfl) (by kernel_rfl) (by kernel_rfl) (by kernel_rfl) ⟨by kernel_rfl, by kernel_rfl⟩ (by kernel_rfl)

theorem localAll_holds : Rows.LocalAllSaid :=
  OpenClaim.holds_of_wide 3 Tryz.f3 rfl rfl rfl rfl rfl rfl rfl ⟨rfl, rfl, rfl, rfl, rfl⟩ rfl rfl rfl rfl rfl (by kernel_rfl) Tryz.func3 localAll_joined
    (of_decide_eq_true (by kernel_rfl)) (by unfold Func.isWrapper; first | (rw [if_pos (by decide +kernel)]; kernel_rfl) | (rw [if_neg (by decide +kernel)]; exact ⟨rfl, rfl⟩))
    (fun os started H enc _ => localAll_lifted os started H enc)
#print axioms localAll_holds
end Go.Proofs.YtiofchhmdkhfoaaGreat
end
