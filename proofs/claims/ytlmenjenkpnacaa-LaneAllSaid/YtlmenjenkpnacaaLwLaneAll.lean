/- The law coachyardlaw32.LaneAll: what is left to say. -/
import Derived.Test.YtlmenjenkpnacaaLwLnZ0
import Derived.Test.YtlmenjenkpnacaaLwLnZ4
import Derived.Test.YtlmenjenkpnacaaLwLnZ5
import Derived.Test.YtlmenjenkpnacaaLwLnZ6
import Derived.Test.YtlmenjenkpnacaaLwLnZ7
import Derived.Test.YtlmenjenkpnacaaLwXA
import Derived.Test.YtlmenjenkpnacaaSyE
import Derived.Test.YtlmenjenkpnacaaRows
set_option linter.unusedVariables false
set_option linter.unusedSimpArgs false

section
namespace Go.Proofs.Ytlmenjenkpnacaa
open Go Go.Sy Go.RowKit

theorem oLz_ok : OOK Try.prog (oLz Try.prog) inM := pruned_ok pr (same_ok (lnRa_ok (lnRi_ok (lnInit_ok (right32_ok (ln_ok (awake32_ok (opCopyW_ok (opLoadS_ok (opAppendW_ok (opSliceT_ok noOrac_ok)))))))))))
theorem runZ {k : Nat} (h : k < 8) : restOf (runX Try.prog (oLz Try.prog) fLz (argsLz vwLz) (wayZ k) hpLz) = some (rstZ k) := by
  match k, h with
  | 0, _ => exact runZ0
  | 1, _ => exact runZ1
  | 2, _ => exact runZ2
  | 3, _ => exact runZ3
  | 4, _ => exact runZ4
  | 5, _ => exact runZ5
  | 6, _ => exact runZ6
  | 7, _ => exact runZ7
/-- One of the ways it is. -/
theorem way_den (ν : Env Gh) (h : pcDen ν pcLz) : ∃ k, k < 8 ∧ pcDen ν (wayZ k) := by
  have t : ∀ c : SB, c.den ν = true ∨ c.den ν = false := fun c => by cases c.den ν <;> simp
  have mk : ∀ {k : Nat} {p : PC}, waysZ[k]? = some p → k < 8 → pcDen ν p → ∃ k, k < 8 ∧ pcDen ν (wayZ k) := fun {k p} hk hl hp => ⟨k, hl, by unfold wayZ; rw [hk]; exact pcDen_append hp h⟩
  rcases t (powB (.var 11)) with p | p
  case inr => exact mk (k := 0) rfl (by decide) (pcDen_one p)
  have hp : pcDen ν powZ := by
    have := ((powB_den ν (.var 11)).1 p).le
    simp only [SI.den] at this
    exact pcDen_cons p (pcDen_cons (lt_of (by simp only [SI.den, Bool.false_eq_true, iff_false]; omega)) (pcDen_one (lt_of (by simp only [SI.den, Bool.false_eq_true, iff_false]; omega))))
  rcases t atZ with a | a
  · exact mk (k := 1) rfl (by decide) (pcDen_cons a hp)
  rcases t topZ with b | b
  case inr => exact mk (k := 2) rfl (by decide) (pcDen_cons b (pcDen_cons a hp))
  rcases t roomZ with r | r
  case inr => exact mk (k := 3) rfl (by decide) (pcDen_cons r (pcDen_cons b (pcDen_cons a hp)))
  have hf : pcDen ν fitZ := pcDen_cons r (pcDen_cons b (pcDen_cons a hp))
  rcases t (.lt (.var 11) manyZ) with c | c
  · exact mk (k := 4) rfl (by decide) (pcDen_cons c hf)
  rcases t (.lt manyZ (.lit 0)) with d | d
  · exact mk (k := 5) rfl (by decide) (pcDen_cons d (pcDen_cons c hf))
  rcases t (.lt (.lit 0) manyZ) with e | e
  · exact mk (k := 7) rfl (by decide) (pcDen_cons e (pcDen_cons d (pcDen_cons c hf)))
  · exact mk (k := 6) rfl (by decide) (pcDen_cons e (pcDen_cons d (pcDen_cons c hf)))
/-- What is left is left where the lane fits. -/
def inPC (q p : PC) : Bool := q.all fun c => p.any fun d => d.1.beq c.1 && bBeq d.2 c.2
theorem inPC_den {q p : PC} (hi : inPC q p = true) {ν : Env Gh} (hp : pcDen ν p) : pcDen ν q := by
  intro c b hm
  have h1 := List.all_eq_true.1 hi (c, b) hm
  obtain ⟨d, hd, h2⟩ := List.any_eq_true.1 h1
  simp only [Bool.and_eq_true] at h2
  rw [← SB.beq_eq h2.1, ← bBeq_eq h2.2]
  exact hp d.1 d.2 hd
theorem fitZ_all : (List.range 8).all (fun k => (rstZ k).all fun x => inPC fitZ x.2.2) = true := by kernel_rfl
theorem part41 (l : List Int) (a b c d : Int) (h1 : 0 ≤ a) (h2 : 0 < b) :
    slotsG (List.take (a + 2 * b + 2 - a).toNat (List.drop a.toNat l)) 0 b c d 18446744073709551616 3 2 = slotsG l a b c d 18446744073709551616 3 2 := by
  unfold slotsG
  refine List.map_congr_left fun j _ => ?_
  have h3 : 0 ≤ (c + (j : Int)) % 18446744073709551616 % b := Int.emod_nonneg _ (by omega)
  have h4 : (c + (j : Int)) % 18446744073709551616 % b < b := Int.emod_lt_of_pos _ h2
  generalize (c + (j : Int)) % 18446744073709551616 % b = r at h3 h4
  simp only [List.getD_eq_getElem?_getD, List.getElem?_take, List.getElem?_drop]
  rw [if_pos (by omega)]
  congr 3
  omega
set_option maxRecDepth 100000 in
theorem lz_rest {k : Nat} (hk : k < 8) (x : Bool × SV × PC) (hx : x ∈ rstZ k) (ν : Env Gh) (ρ : Nat → Nat) (hI : ν.I = inM) (h9 : ((ν.l 0).length : Int) ≤ ν.i 9) (hp : pcDen ν x.2.2) : x.1 = false ∧ x.2.1.den ν ρ = .bool true := by
  exfalso
  have C : pcDen ν fitZ := inPC_den (List.all_eq_true.1 (List.all_eq_true.1 fitZ_all k (List.mem_range.2 hk)) x hx) hp
  have c0 := lt_den (pcAt C 0 rfl)
  have c1 := (powB_den ν (.var 11)).1 (pcAt C 3 rfl)
  have c2 := lt_den (pcAt C 1 rfl)
  have c4 := lt_den (pcAt C 2 rfl)
  have c5 := lt_den (pcAt C 4 rfl)
  have c6 := lt_den (pcAt C 5 rfl)
  simp only [SI.den, SL.den, Bool.false_eq_true, iff_false, iff_true] at c0 c1 c2 c4 c5 c6
  unfold Pow at c1
  have x41 : ∀ (a b c d : SI) (l : SL), (SG.app 41 (.var 0) (.var 0) a b c d l).den ν = ghL (slotsG (l.den ν) (a.den ν) (b.den ν) (c.den ν) (d.den ν) 18446744073709551616 3 2) := fun a b c d l => by simp [SG.den, hI, inM, xga]
  have x46 : ∀ (a b c d : SI) (l : SL), (SG.app 46 (.var 0) (.var 0) a b c d l).den ν = ghL (lnG (l.den ν) (a.den ν) (b.den ν) (c.den ν) (d.den ν)) := fun a b c d l => by simp [SG.den, hI, inM, xga]
  have x1 : ∀ l : SL, (SG.app 1 (.var 0) (.var 0) (.lit 0) (.lit 0) (.lit 0) (.lit 0) l).den ν = ghL (l.den ν) := fun l => lsX_den hI l
  have w4 : IntKind.i64.wrap (ν.i 10 + 1) = ν.i 10 + 1 := wrapS _ (by omega) (by omega)
  have t0 : ((List.take (ν.i 10 + 2 * ν.i 11 + 2 - ν.i 10).toNat (List.drop (ν.i 10).toNat (ν.l 0))).length : Int) = 2 * ν.i 11 + 2 := by
    simp only [List.length_take, List.length_drop]; omega
  have t1 : (List.take (ν.i 10 + 2 * ν.i 11 + 2 - ν.i 10).toNat (List.drop (ν.i 10).toNat (ν.l 0))).getD (Int.toNat 0) 0 = (ν.l 0).getD (ν.i 10).toNat 0 := by
    simp only [List.getD_eq_getElem?_getD, List.getElem?_take, List.getElem?_drop]
    rw [if_pos (by omega)]; rfl
  have t2 : (List.take (ν.i 10 + 2 * ν.i 11 + 2 - ν.i 10).toNat (List.drop (ν.i 10).toNat (ν.l 0))).getD (Int.toNat 1) 0 = (ν.l 0).getD (ν.i 10 + 1).toNat 0 := by
    simp only [List.getD_eq_getElem?_getD, List.getElem?_take, List.getElem?_drop]
    rw [if_pos (by omega), show (ν.i 10).toNat + Int.toNat 1 = (ν.i 10 + 1).toNat by omega]
  have t3 := fun c d => part41 (ν.l 0) (ν.i 10) (ν.i 11) c d (by omega) (by omega)
  have t4 : (2 * ν.i 11 + 2 - 2).tdiv 2 = ν.i 11 := by
    rw [show 2 * ν.i 11 + 2 - 2 = ν.i 11 * 2 by omega]
    exact Int.mul_tdiv_cancel _ (by decide)
  have tr : (lnG (List.replicate (2 * ν.i 11 + 2).toNat 0) 0 (ν.i 11) (ν.i 12) (ν.i 11)).length = (2 * ν.i 11 + 2).toNat := by rw [lnG_length, List.length_replicate]
  have tW : List.take (ν.l 0).length (List.take (ν.i 10).toNat (ν.l 0) ++ (lnG (List.replicate (2 * ν.i 11 + 2).toNat 0) 0 (ν.i 11) (ν.i 12) (ν.i 11) ++ List.drop (ν.i 10 + (((2 * ν.i 11 + 2).toNat : Nat) : Int)).toNat (ν.l 0))) = lnG (ν.l 0) (ν.i 10) (ν.i 11) (ν.i 12) (ν.i 11) := by
    rw [lnG_all (l := ν.l 0) (by omega) (by omega) (by omega), show (ν.i 10 + (((2 * ν.i 11 + 2).toNat : Nat) : Int)).toNat = (ν.i 10 + 2 * ν.i 11 + 2).toNat by omega]
    refine List.take_of_length_le ?_
    simp only [List.length_append, List.length_take, List.length_drop, tr]
    omega
  generalize hm : IntKind.i64.wrap (IntKind.u64.wrap ((ν.l 0).getD (ν.i 10).toNat 0 - (ν.l 0).getD (ν.i 10 + 1).toNat 0)) = m
  have hll : ∀ (l : List Int) (a b c d : Int), (lnG l a b c d).length = l.length := lnG_length
  have hsl : ∀ (l : List Int) (a b c d m o s : Int), (slotsG l a b c d m o s).length = d.toNat := slotsG_length
  clear C
  have hk8 : k = 0 ∨ k = 1 ∨ k = 2 ∨ k = 3 ∨ k = 4 ∨ k = 5 ∨ k = 6 ∨ k = 7 := by omega
  rcases hk8 with rfl | rfl | rfl | rfl | rfl | rfl | rfl | rfl
  all_goals simp only [rstZ, outZ, List.getElem?_cons_zero, List.getElem?_cons_succ, Option.getD_some, ouZ0, ouZ1, ouZ2, ouZ3, ouZ4, ouZ5, ouZ6, ouZ7, List.map_cons, List.map_nil, List.mem_cons, List.not_mem_nil, or_false] at hx
  repeat' (rcases hx with rfl | hx)
  all_goals (try subst hx)
  all_goals
    simp only [pcDen_cons_iff, pcDen_nil_iff, SB.den, Bool.and_eq_true, Bool.or_eq_true, Bool.and_eq_false_iff, Bool.or_eq_false_iff, Bool.not_eq_true', Bool.not_eq_false', beq_iff_eq, beq_eq_false_iff_ne, decide_eq_true_eq, decide_eq_false_iff_not] at hp
    simp only [SI.den, SL.den, x41, x46, x1, app2_den hI, lsX_den hI, hI, inM_gl, inM_gb, ghL_l, Int.toNat_natCast, w4, t0, t1, t2, t4, t3, tr, tW, hm, hll, hsl] at hp
    first
      | omega
      | (exfalso; simp at hp; done)
      | (exfalso; simp at hp; omega)
end Go.Proofs.Ytlmenjenkpnacaa
end

section
namespace Go.Proofs.Ytlmenjenkpnacaa
open Go.ChangeShapes Go.WideShapes Go.ChangeAt Go.RowKit Go.Sy

theorem cellsU64 : Try.prog.cellsOf 53 = 1 := by kernel_rfl
theorem cellsLn : Try.prog.cellsOf 71 = 2 := by kernel_rfl
set_option maxRecDepth 100000 in
theorem arg_row {H : Type} {enc : TypeId × Value → H} {W : World} {base : Nat} {spare : Nat → Bool} {held : Bool} {r : Reach} {b0 : Nat} {v : Value} {d : DataW H} {ps : List MemPlace} (hok : Value.okWide Try.prog W r b0 71 v)
    (h : DataW.Trod enc Try.prog W base spare held 71 v d ps) : ∃ (a c : Int), v = .agg #[.int .i64 a, .int .i64 c] := by
  obtain ⟨v0, v1, y0, y1, n, rfl, _, _, h0, h1⟩ := Go.Joins.open_agg2 Try.underlying71 (by kernel_rfl) cellsLn hok h
  obtain ⟨a, e0, _, w0⟩ := DataW.trod_int Try.underlying3 h0
  obtain ⟨c, e1, _, w1⟩ := DataW.trod_int Try.underlying3 h1
  simp only [List.cons.injEq, and_true] at e0 e1
  subst e0 e1
  exact ⟨a, c, rfl⟩

def envG (i : Nat → Int) (l : Nat → List Int) : Env Gh := ⟨inM, fun _ => ghL [], i, fun _ => false, fun _ => .bool false, l, noAddr, fun _ => rfl⟩
def lzI (a c f o cap : Int) : Nat → Int | 10 => a | 11 => c | 12 => f | 8 => o | 9 => cap | _ => 0

set_option maxRecDepth 100000 in
theorem laneAll_lifted (os : Os) (started : os.Started) (H : Type) (enc : TypeId × Value → H) :
    ReturnsInHanded {} Try.checked os 6 .any (Rows.laneAllSpec.pre6 enc Try.prog Try.f6 Rows.laneAllRow.domain false) (Rows.laneAllSpec.post enc Try.prog Try.f6 false true false false) := by
  refine law_lifted (C := Try.checked) facts own started (by kernel_rfl) Try.func6
    (ChangeSpec.witness6 (enc := enc) (C := Try.checked) false ⟨#[], #[.slice none 0 0, .agg #[.int .i64 0, .int .i64 0], .int .u64 0], []⟩ 8 (by kernel_rfl) (by kernel_rfl) (by kernel_rfl) (by kernel_rfl)) rfl (fun ds h => ?_) Try.underlying4 (by kernel_rfl) (by kernel_rfl) fun W base args ds p hval hA hlt => ?_
  · rw [Try.params6] at h
    match ds, h with
    | [d, e, f], _ => rfl
  rw [Try.params6] at hA hval
  obtain ⟨v0, v1, v2, d0, d1, d2, p0, p1, p2, rfl, rfl, rfl, h0, h1, h2⟩ := trodAll_three hA
  obtain ⟨a, c, rfl⟩ := arg_row (hval 1 71 v1 rfl rfl) h1
  obtain ⟨f, rfl, _, _, _⟩ := open_int Try.underlying53 (hval 2 53 v2 rfl rfl) h2
  rcases arg_ints Try.underlying22 Try.underlying53 cellsU64 (hval 0 22 v0 rfl rfl) h0 with rfl | ⟨ad, rfl⟩ | ⟨g, o, cap, xs, rfl, hg, hcap, _, hcell, _⟩
  · exact law_auto pr oLz_ok runZn W (envG (lzI a c f 0 0) (fun _ => [])) (fun _ => 0) rfl (pcDen_nil _) (HW.empty _ _ _)
  · exact law_auto pr oLz_ok runZe W ⟨inM, fun _ => ghL [], lzI a c f 0 0, fun _ => false, fun _ => .bool false, fun _ => [], fun _ => ad, fun _ => rfl⟩ (fun _ => 0) rfl (pcDen_nil _) (HW.empty _ _ _)
  · obtain ⟨k, hk, hpc⟩ := way_den (envG (lzI a c f o cap) (fun _ => xs)) (pcDen_cons (by simp [SB.den, SI.den, envG, lzI]) (pcDen_one (by simp only [SB.den, SI.den, SL.den, envG, lzI, decide_eq_false_iff_not]; omega)))
    exact law_rest pr oLz_ok (runZ hk) W (envG (lzI a c f o cap) (fun _ => xs)) (fun _ => g) rfl hpc
      ((HW.empty _ _ _).addView (by simp) (by rw [baseOf_own]; omega) (by simp [SI.den, envG, lzI]) (by simpa [SI.den, SL.den, envG, lzI, baseOf] using hcell))
      fun x hx ν' ρ' hag hp => lz_rest hk x hx ν' ρ' hag.I (by rw [hag.l 0 (by kernel_rfl), hag.i 9 (by kernel_rfl)]; simp only [envG, lzI]; omega) hp

theorem laneAll_joined : joinedFacts Try.prog 6 Try.f6 Rows.laneAllSpec Rows.laneAllRow = true :=
  joined_of facts (by kernel_rfl) ⟨rfl, rfl, rfl, rfl, rfl, rfl⟩ (by kernel_rfl) (by kernel_rfl) (by kernel_rfl) (by kernel_rfl) (by kernel_rfl) (by kernel_rfl) (by kernel_rfl) ⟨by kernel_rfl, by kernel_rfl⟩ (by kernel_rfl)

theorem laneAll_holds : Rows.LaneAllSaid :=
  OpenClaim.holds_of_wide 6 Try.f6 rfl rfl rfl rfl rfl rfl rfl ⟨rfl, rfl, rfl, rfl, rfl⟩ rfl rfl rfl rfl rfl (by kernel_rfl) Try.func6 laneAll_joined
    (of_decide_eq_true (by kernel_rfl)) (by unfold Func.isWrapper; first | (rw [if_pos (by decide +kernel)]; kernel_rfl) | (rw [if_neg (by decide +kernel)]; exact ⟨rfl, rfl⟩))
    (fun os started H enc _ => laneAll_lifted os started H enc)
#print axioms laneAll_holds
end Go.Proofs.Ytlmenjenkpnacaa
end
