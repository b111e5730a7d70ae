/- lane.Row.Init on a memory: its state, its loop's head. -/
import Derived.Test.YtlmenjenkpnacaaLwXA
import Derived.Test.YtlmenjenkpnacaaSyL
set_option linter.unusedVariables false
set_option linter.unusedSimpArgs false

section
namespace Go.Proofs.Ytlmenjenkpnacaa
open Go Go.Sy Go.RowKit

def fLi : Nat := 40
def tLi : Tmpl := ⟨[.agg [.int .i64 (.var 0), .int .i64 (.var 1)], .ptr 0 (.lit 0), .int .u64 (.var 2)], [], [(0, .cells [.sl 1 (.lit 0) (.len (.var 0)) (.var 3)] 105 true), (1, .row .u64 (.var 0) (.var 3) 53)]⟩
def nLi : Nat := nmAt 8
def oLi (P : Program) : Orac := (oSm P).pruned P
def eLi (P : Program) : Leaf := capN 0 (capAll P (oLi P) fLi 8 tLi.args tLi.pc tLi.hp)
def linkL (i : SI) : SL := .gl 0 (.app 46 (.var 0) (.var 0) (.var 0) (.var 1) (.var 2) i (.var 0)) (.lit 0) (.lit 0)
def hLi (P : Program) : Leaf := let L := eLi P
  { L with fr := (keepFr [2, 3, 4, 8, 30] L.fr).set 31 (.int .u64 (.var nLi)), hp := setList 1 (.var (nLi + 1)) L.hp }
def pLi (P : Program) : PC := [(.lt (.var nLi) (.lit 0), false), (.lt (.lit 256) (.var nLi), false), (.lt (.var 1) (.var nLi), false), (.eq (.len (.var (nLi + 1))) (.len (.var 0)), true)] ++ (eLi P).pc
def gLi (P : Program) : List Tgt := [⟨.exit 0, (hLi P).fr.map fun _ => .dead, setList 1 (linkL (.var 1)) (eLi P).hp, []⟩]
def bodyLi (P : Program) : Option (List Leaf) := codeX P (oLi P) LO7 SZ7 fLi 6000 0 (loopAt P fLi 8) (hLi P).fr (pLi P) (hLi P).hp
def sLi (P : Program) : Option (List SumT) := (bodyLi P).bind (sumsT P nLi LO7 SZ7 (⟨.normal, (hLi P).fr, (hLi P).hp, pLi P⟩ :: gLi P))
def oLiL (P : Program) : Orac := (oLi P).withLoop fLi 8 nLi (eLi P).fr (eLi P).hp (mkM nLi (gLi P) ((eLi P).pc.map fun x => (x.1, !x.2)))
end Go.Proofs.Ytlmenjenkpnacaa
end

section
namespace Go.Proofs.Ytlmenjenkpnacaa
open Go Go.Sy Go.RowKit

def pcLi : PC := [((.lt (.add (.add (.var 0) (.mul (.lit 2) (.var 1))) (.lit 1)) (.len (.var 0))), true), ((.lt (.var 0) (.sub (.sub (.lit 65536) (.mul (.lit 2) (.var 1))) (.lit 1))), true), ((.lt (.var 0) (.lit 0)), false), ((.eq (.bits 0 .i64 (.var 1) (.sub (.var 1) (.lit 1))) (.lit 0)), true), ((.lt (.var 1) (.lit 257)), true), ((.lt (.var 1) (.lit 2)), false)]
def startLi : Mt := ⟨[], [(0, (.lit 0))], [(1, (.set (.set (.var 0) (.add (.var 0) (.lit 1)) (.var 2)) (.var 0) (.var 2)))], [], [], [], [], []⟩
def sumsLi : List SumT := [
  ⟨.normal, 0, ⟨[], [(0, (.add (.var (nLi + 0)) (.lit 1)))], [(1, (.set (.set (.var (nLi + 1)) (.add (.add (.add (.var 0) (.lit 2)) (.mul (.lit 2) (.bits 0 .u64 (.wrap .u64 (.add (.var 2) (.var (nLi + 0)))) (.sub (.var 1) (.lit 1))))) (.lit 1)) (.lit 0)) (.add (.add (.var 0) (.lit 2)) (.mul (.lit 2) (.bits 0 .u64 (.wrap .u64 (.add (.var 2) (.var (nLi + 0)))) (.sub (.var 1) (.lit 1))))) (.wrap .u64 (.add (.var 2) (.var (nLi + 0))))))], [], [], [], [], []⟩, [((.lt (.var (nLi + 0)) (.var 1)), true), ((.lt (.var (nLi + 0)) (.lit 0)), false), ((.lt (.lit 256) (.var (nLi + 0))), false), ((.lt (.var 1) (.var (nLi + 0))), false), ((.eq (.len (.var (nLi + 1))) (.len (.var 0))), true), ((.lt (.add (.add (.var 0) (.mul (.lit 2) (.var 1))) (.lit 1)) (.len (.var 0))), true), ((.lt (.var 0) (.sub (.sub (.lit 65536) (.mul (.lit 2) (.var 1))) (.lit 1))), true), ((.lt (.var 0) (.lit 0)), false), ((.eq (.bits 0 .i64 (.var 1) (.sub (.var 1) (.lit 1))) (.lit 0)), true), ((.lt (.var 1) (.lit 257)), true), ((.lt (.var 1) (.lit 2)), false)]⟩,
  ⟨.exit 0, 0, ⟨[], [], [], [], [], [((.var (nLi + 1)), (.gl 0 (.app 46 (.var 0) (.var 0) (.var 0) (.var 1) (.var 2) (.var 1) (.var 0)) (.lit 0) (.lit 0)))], [], []⟩, [((.lt (.var (nLi + 0)) (.var 1)), false), ((.lt (.var (nLi + 0)) (.lit 0)), false), ((.lt (.lit 256) (.var (nLi + 0))), false), ((.lt (.var 1) (.var (nLi + 0))), false), ((.eq (.len (.var (nLi + 1))) (.len (.var 0))), true), ((.lt (.add (.add (.var 0) (.mul (.lit 2) (.var 1))) (.lit 1)) (.len (.var 0))), true), ((.lt (.var 0) (.sub (.sub (.lit 65536) (.mul (.lit 2) (.var 1))) (.lit 1))), true), ((.lt (.var 0) (.lit 0)), false), ((.eq (.bits 0 .i64 (.var 1) (.sub (.var 1) (.lit 1))) (.lit 0)), true), ((.lt (.var 1) (.lit 257)), true), ((.lt (.var 1) (.lit 2)), false)]⟩]
def ouLi : List CLeaf := [
  ⟨false, (.int .i64 (.lit 2)), [((.lt (.var 0) (.sub (.sub (.lit 65536) (.mul (.lit 2) (.var 1))) (.lit 1))), false), ((.lt (.var 0) (.lit 0)), false), ((.eq (.bits 0 .i64 (.var 1) (.sub (.var 1) (.lit 1))) (.lit 0)), true), ((.lt (.var 1) (.lit 257)), true), ((.lt (.var 1) (.lit 2)), false)], [(0, (.cells [(.sl 1 (.lit 0) (.len (.var 0)) (.var 3))] 105 true)), (1, (.row .u64 (.var 0) (.var 3) 53))]⟩,
  ⟨false, (.int .i64 (.lit 3)), [((.lt (.add (.add (.var 0) (.mul (.lit 2) (.var 1))) (.lit 1)) (.len (.var 0))), false), ((.lt (.var 0) (.sub (.sub (.lit 65536) (.mul (.lit 2) (.var 1))) (.lit 1))), true), ((.lt (.var 0) (.lit 0)), false), ((.eq (.bits 0 .i64 (.var 1) (.sub (.var 1) (.lit 1))) (.lit 0)), true), ((.lt (.var 1) (.lit 257)), true), ((.lt (.var 1) (.lit 2)), false)], [(0, (.cells [(.sl 1 (.lit 0) (.len (.var 0)) (.var 3))] 105 true)), (1, (.row .u64 (.var 0) (.var 3) 53))]⟩,
  ⟨false, (.int .i64 (.lit 0)), [((.lt (.add (.add (.var 0) (.mul (.lit 2) (.var 1))) (.lit 1)) (.len (.var 0))), true), ((.lt (.var 0) (.sub (.sub (.lit 65536) (.mul (.lit 2) (.var 1))) (.lit 1))), true), ((.lt (.var 0) (.lit 0)), false), ((.eq (.bits 0 .i64 (.var 1) (.sub (.var 1) (.lit 1))) (.lit 0)), true), ((.lt (.var 1) (.lit 257)), true), ((.lt (.var 1) (.lit 2)), false)], [(0, (.cells [(.sl 1 (.lit 0) (.len (.var 0)) (.var 3))] 105 true)), (1, (.row .u64 (.gl 0 (.app 46 (.var 0) (.var 0) (.var 0) (.var 1) (.var 2) (.var 1) (.var 0)) (.lit 0) (.lit 0)) (.var 3) 53))]⟩,
  ⟨false, (.int .i64 (.lit 2)), [((.lt (.var 0) (.lit 0)), true), ((.eq (.bits 0 .i64 (.var 1) (.sub (.var 1) (.lit 1))) (.lit 0)), true), ((.lt (.var 1) (.lit 257)), true), ((.lt (.var 1) (.lit 2)), false)], [(0, (.cells [(.sl 1 (.lit 0) (.len (.var 0)) (.var 3))] 105 true)), (1, (.row .u64 (.var 0) (.var 3) 53))]⟩,
  ⟨false, (.int .i64 (.lit 2)), [((.eq (.bits 0 .i64 (.var 1) (.sub (.var 1) (.lit 1))) (.lit 0)), false), ((.lt (.var 1) (.lit 257)), true), ((.lt (.var 1) (.lit 2)), false)], [(0, (.cells [(.sl 1 (.lit 0) (.len (.var 0)) (.var 3))] 105 true)), (1, (.row .u64 (.var 0) (.var 3) 53))]⟩,
  ⟨false, (.int .i64 (.lit 2)), [((.lt (.var 1) (.lit 257)), false), ((.lt (.var 1) (.lit 2)), false)], [(0, (.cells [(.sl 1 (.lit 0) (.len (.var 0)) (.var 3))] 105 true)), (1, (.row .u64 (.var 0) (.var 3) 53))]⟩,
  ⟨false, (.int .i64 (.lit 2)), [((.lt (.var 1) (.lit 2)), true)], [(0, (.cells [(.sl 1 (.lit 0) (.len (.var 0)) (.var 3))] 105 true)), (1, (.row .u64 (.var 0) (.var 3) 53))]⟩]
theorem oLi_ok : OOK Try.prog (oLi Try.prog) inM := pruned_ok pr (opLoadS_ok (opAppendW_ok (opSliceT_ok noOrac_ok)))
theorem pcLi_eq : (eLi Try.prog).pc = pcLi := by kernel_rfl
theorem avLi : pav nLi (nLi + 64) pcLi = true := by kernel_rfl
theorem bLi : sLi Try.prog = some sumsLi := by kernel_rfl
theorem stLi : mAll nLi 0 0 Try.prog (eLi Try.prog).fr (eLi Try.prog).hp (hLi Try.prog).fr (hLi Try.prog).hp = some startLi := by kernel_rfl
theorem oneLi : (loopsAt Try.prog fLi 8).length = 1 := by kernel_rfl
theorem runLi : runX Try.prog (oLiL Try.prog) fLi tLi.args tLi.pc tLi.hp = some ouLi := by kernel_rfl
theorem factsLi {ν : Env Gh} (h : pcDen ν pcLi) : 0 ≤ ν.i 0 ∧ ν.i 0 < 65536 ∧ Pow (ν.i 1) ∧ 2 ≤ ν.i 1 ∧ ν.i 1 ≤ 256 ∧ ν.i 0 + 2 * ν.i 1 + 1 < (ν.l 0).length := by
  have h0 := lt_den (pcAt h 0 rfl)
  have h1 := lt_den (pcAt h 1 rfl)
  have h2 := lt_den (pcAt h 2 rfl)
  have h3 := pcAt h 3 rfl
  have h4 := lt_den (pcAt h 4 rfl)
  have h5 := lt_den (pcAt h 5 rfl)
  simp only [SB.den, beq_iff_eq] at h3
  simp only [SI.den, SL.den, Bool.false_eq_true, iff_false, iff_true] at h0 h1 h2 h3 h4 h5
  refine ⟨by omega, by omega, (bits_iff _ (by omega) (by omega)).1 ?_, by omega, by omega, by omega⟩
  rw [wrapS _ (by omega) (by omega)]
  exact h3
attribute [local irreducible] nmAt
theorem oLiL_ok : OOK Try.prog (oLiL Try.prog) inM := by
  have hb : ∀ {ν : Env Gh}, (∀ x ∈ (eLi Try.prog).pc.map fun x => (x.1, !x.2), x.1.den ν ≠ x.2) → pcDen ν pcLi := fun h => by rw [pcLi_eq] at h; exact bads_of h
  have hp : ∀ {ν : Env Gh} {x : Vals Gh}, pcDen ν pcLi → 0 ≤ x.i 0 → x.i 0 ≤ ν.i 1 → (x.l 1).length = (ν.l 0).length → pcDen (ν.at nLi x) (pLi Try.prog) := by
    intro ν x h h0 h1 h2
    have F := factsLi h
    have rf : RF nLi ν x (ν.at nLi x) := RF.self rfl
    have r0 : (ν.at nLi x).i nLi = x.i 0 := rf.i 0 (by decide)
    have hold : pcDen (ν.at nLi x) pcLi := pcDen_agree (at_agree (ρ := fun _ => 0) (ρ' := fun _ => 0) (fun _ _ => rfl)) avLi h
    unfold pLi
    rw [pcLi_eq]
    refine pcDen_append (pcDen_cons (lt_of ?_) (pcDen_cons (lt_of ?_) (pcDen_cons (lt_of ?_) (pcDen_one ?_)))) hold
    · simp only [SI.den, r0, Bool.false_eq_true, iff_false]; omega
    · simp only [SI.den, r0, Bool.false_eq_true, iff_false]; omega
    · simp only [SI.den, r0, rf.io 1 (by decide), Bool.false_eq_true, iff_false]; omega
    · simp only [SB.den, beq_iff_eq]
      simp only [SI.den, SL.den, rf.l 1 (by decide), rf.lo 0 (by decide)]
      omega
  refine loopT_ok pr oLi_ok (rfl : nLi = nmAt 8) (by decide +kernel) oneLi (ghL []) bLi stLi
    (fun ν x => 0 ≤ x.i 0 ∧ x.i 0 ≤ ν.i 1 ∧ x.l 1 = lnG (ν.l 0) (ν.i 0) (ν.i 1) (ν.i 2) (x.i 0)) (fun ν x => (ν.i 1 - x.i 0).toNat) ?_ ?_ oLi_ok
  · intro ν hI h
    have hp' := hb h
    have F := factsLi hp'
    generalize hy : Mt.vals startLi (ghL []) ν = y
    have y0 : y.i 0 = 0 := by rw [← hy]; simp only [startLi, Mt.vals, lkp_cons, lkp_nil, Nat.reduceEqDiff, reduceIte, SI.den]
    have y1 : y.l 1 = ((ν.l 0).set (ν.i 0 + 1).toNat (ν.i 2)).set (ν.i 0).toNat (ν.i 2) := by rw [← hy]; simp only [startLi, Mt.vals, lkp_cons, lkp_nil, Nat.reduceEqDiff, reduceIte, SL.den, SI.den]
    refine ⟨⟨by omega, by omega, ?_⟩, hp hp' (by omega) (by omega) (by rw [y1, List.length_set, List.length_set]), ?_⟩
    · rw [y1, y0, List.set_comm _ _ (by omega)]
      exact lnG_start (by omega) (by omega)
    · constructor <;> simp [startLi]
  · intro t ht ν x ν2 hI h hJ _ rf hpc
    have hp' := hb h
    have F := factsLi hp'
    obtain ⟨j0, j1, j2⟩ := hJ
    have q0 : ν2.i (nLi + 0) = x.i 0 := rf.i 0 (by decide)
    have q1 : ν2.l (nLi + 1) = x.l 1 := rf.l 1 (by decide)
    have qa : ν2.i 0 = ν.i 0 := rf.io 0 (by decide)
    have qn : ν2.i 1 = ν.i 1 := rf.io 1 (by decide)
    have qf : ν2.i 2 = ν.i 2 := rf.io 2 (by decide)
    have hl : (x.l 1).length = (ν.l 0).length := by rw [j2, lnG_length]
    simp only [sumsLi, List.mem_cons, List.not_mem_nil, or_false] at ht
    rcases ht with rfl | rfl
    · have c := lt_den (pcAt hpc 0 rfl)
      simp only [SI.den, q0, qn, iff_true] at c
      generalize hy : Mt.vals _ (ghL []) ν2 = y
      have y0 : y.i 0 = x.i 0 + 1 := by rw [← hy]; simp only [Mt.vals, lkp_cons, lkp_nil, Nat.reduceEqDiff, reduceIte, SI.den, q0]
      have em : bitsDen 0 .u64 (IntKind.u64.wrap (ν.i 2 + x.i 0)) (ν.i 1 - 1) = (ν.i 2 + x.i 0) % 18446744073709551616 % ν.i 1 := by
        have := mask_mod (IntKind.u64.wrap (ν.i 2 + x.i 0)) (ν.i 1) F.2.2.1
        rw [wrapS _ (by omega) (by omega), wrapU (ν.i 1 - 1), wrapU, Int.emod_emod_of_dvd _ (Int.dvd_refl _), Int.emod_eq_of_lt (a := ν.i 1 - 1) (by omega) (by omega)] at this
        rw [wrapU]; exact this
      generalize hs : (ν.i 2 + x.i 0) % 18446744073709551616 % ν.i 1 = s at em
      have hs0 : 0 ≤ s ∧ s < ν.i 1 := by rw [← hs]; exact ⟨Int.emod_nonneg _ (by omega), Int.emod_lt_of_pos _ (by omega)⟩
      have y1 : y.l 1 = ((x.l 1).set (ν.i 0 + 2 + 2 * s + 1).toNat 0).set (ν.i 0 + 2 + 2 * s).toNat ((ν.i 2 + x.i 0) % 18446744073709551616) := by
        rw [← hy]
        simp only [Mt.vals, lkp_cons, lkp_nil, Nat.reduceEqDiff, reduceIte, SI.den, SL.den, q0, q1, qa, qn, qf, em]
        rw [wrapU]
      refine ⟨⟨by omega, by omega, ?_⟩, hp hp' (by omega) (by omega) (by rw [y1, List.length_set, List.length_set]; exact hl), by show _ < (ν.i 1 - x.i 0).toNat; omega, by constructor <;> simp⟩
      rw [y1, y0, j2, List.set_comm _ _ (by omega), show ν.i 0 + 2 + 2 * s + 1 = ν.i 0 + 3 + 2 * s by omega]
      exact lnG_step (by omega) j0 c (pow_dvd64 F.2.2.1) s hs.symm (by omega)
    · have c := lt_den (pcAt hpc 0 rfl)
      simp only [SI.den, q0, qn, Bool.false_eq_true, iff_false] at c
      have rf3 : ∀ y, RF nLi ν y (ν.at nLi y) := fun y => RF.self rfl
      refine ⟨fun g hg => by cases hg; exact pcDen_nil _, ?_⟩
      constructor
      · simp
      · intro z hz
        simp only [List.mem_cons, List.not_mem_nil, or_false] at hz
        subst hz
        simp only [SL.den, q1]
        rw [j2]
        simp only [SG.den, SI.den, SL.den, (rf3 _).I, hI, (rf3 _).io 0 (by decide), (rf3 _).io 1 (by decide), (rf3 _).io 2 (by decide), (rf3 _).lo 0 (by decide)]
        rw [show x.i 0 = ν.i 1 by omega]
        rfl
      · simp
      · simp
/-! in short -/
def roomI : SB := .lt (.add (.add (.var 0) (.mul (.lit 2) (.var 1))) (.lit 1)) (.len (.var 0))
def shLi : List CLeaf := [
  ⟨false, .int .i64 (.lit 2), [(rightB 2 (.var 0) (.var 1), false)], tLi.hp⟩,
  ⟨false, .int .i64 (.lit 3), [(roomI, false), (rightB 2 (.var 0) (.var 1), true)], tLi.hp⟩,
  ⟨false, .int .i64 (.lit 0), [(roomI, true), (rightB 2 (.var 0) (.var 1), true), (.eq (.len (linkL (.var 1))) (.len (.var 0)), true), (.eq (.nth (linkL (.var 1)) (.var 0)) (.var 2), true), (.eq (.nth (linkL (.var 1)) (.add (.var 0) (.lit 1))) (.var 2), true)], setList 1 (linkL (.var 1)) tLi.hp⟩]
theorem shLi_ok : ∀ c ∈ ouLi, ∀ ν : Env Gh, ν.I = inM → pcDen ν c.pc → ∃ c' ∈ shLi, c'.bad = c.bad ∧ (∀ ρ, c'.v.den ν ρ = c.v.den ν ρ) ∧ c'.hp.Sublist c.hp ∧ pcDen ν c'.pc := by
  intro c hc ν hI hp
  have hR := rightB_den ν 2 (.var 0) (.var 1)
  have hN := rightB_no ν 2 (.var 0) (.var 1)
  simp only [SI.den] at hR hN
  have arg : ¬ Right 2 (ν.i 0) (ν.i 1) → ∃ c' ∈ shLi, c'.bad = false ∧ (∀ ρ, c'.v.den ν ρ = (SV.int .i64 (.lit 2)).den ν ρ) ∧ c'.hp.Sublist tLi.hp ∧ pcDen ν c'.pc := fun h =>
    ⟨_, List.mem_cons_self .., rfl, fun _ => rfl, List.Sublist.refl _, pcDen_one (hN.2 h)⟩
  have bit : 2 ≤ ν.i 1 → ν.i 1 < 257 → (bitsDen 0 .i64 (ν.i 1) (ν.i 1 - 1) = 0 ↔ Pow (ν.i 1)) := fun h1 h2 => by
    have := bits_iff (ν.i 1) h1 (by omega)
    rwa [wrapS _ (by omega) (by omega)] at this
  simp only [ouLi, List.mem_cons, List.not_mem_nil, or_false] at hc
  rcases hc with rfl | rfl | rfl | rfl | rfl | rfl | rfl
  all_goals
    simp only [pcDen_cons_iff, SB.den, decide_eq_true_eq, decide_eq_false_iff_not, beq_iff_eq, beq_eq_false_iff_ne] at hp
    simp only [SI.den, SL.den] at hp
  · exact arg fun ⟨_, r2, _⟩ => by omega
  · obtain ⟨h1, h2, h3, h4, h5, h6, -⟩ := hp
    have hp := (bit (by omega) h5).1 h4
    exact ⟨_, List.mem_of_getElem? (show shLi[1]? = some _ from rfl), rfl, fun _ => rfl, List.Sublist.refl _, pcDen_cons (lt_of (by simp only [SI.den, SL.den]; simpa using h1)) (pcDen_one (hR.2 ⟨by omega, by omega, hp⟩))⟩
  · obtain ⟨h1, h2, h3, h4, h5, h6, -⟩ := hp
    have hp := (bit (by omega) h5).1 h4
    have hd : (linkL (.var 1)).den ν = lnG (ν.l 0) (ν.i 0) (ν.i 1) (ν.i 2) (ν.i 1) := by
      simp only [linkL, SL.den, SG.den, SI.den, hI]; rfl
    have hn : ∀ k : Int, k = ν.i 0 ∨ k = ν.i 0 + 1 → ((linkL (.var 1)).den ν).getD k.toNat 0 = ν.i 2 := fun k hk => by
      rw [hd, List.getD_eq_getElem?_getD, List.getElem?_eq_getElem (by rw [lnG_length]; omega), Option.getD_some, lnG_get, if_pos (by omega)]
    exact ⟨_, List.mem_of_getElem? (show shLi[2]? = some _ from rfl), rfl, fun _ => rfl, List.Sublist.refl _, pcDen_cons (lt_of (by simp only [SI.den, SL.den]; simpa using h1)) (pcDen_cons (hR.2 ⟨by omega, by omega, hp⟩)
      (pcDen_cons (by simp only [SB.den, beq_iff_eq]; simp only [SI.den, hd, lnG_length, SL.den]) (pcDen_cons (by simp only [SB.den, beq_iff_eq]; simp only [SI.den]; exact hn _ (.inl rfl)) (pcDen_one (by simp only [SB.den, beq_iff_eq]; simp only [SI.den]; exact hn _ (.inr rfl))))))⟩
  · exact arg fun ⟨r1, _, _⟩ => by omega
  · obtain ⟨h4, h5, h6, -⟩ := hp
    exact arg fun ⟨_, _, r3⟩ => h4 ((bit (by omega) h5).2 r3)
  · exact arg fun ⟨_, _, r3⟩ => by have := r3.le; omega
  · exact arg fun ⟨_, _, r3⟩ => by have := r3.le; omega
theorem lnInit_ok {O : Orac} (oo : OOK Try.prog O inM) : OOK Try.prog (O.withCallF fLi (sumK Try.prog tLi (splitL shLi))) inM := withCallF_ok oo (sum_okC pr oLiL_ok runLi (splitL_ok shLi_ok) oo)
end Go.Proofs.Ytlmenjenkpnacaa
end
