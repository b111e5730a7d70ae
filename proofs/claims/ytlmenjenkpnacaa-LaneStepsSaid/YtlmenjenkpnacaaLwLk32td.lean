/- Is a lane's walk like the document's, round by round. (Printed by lk32.py.) -/
import Derived.Test.YtlmenjenkpnacaaLwXA
import Derived.Test.YtlmenjenkpnacaaLwXV
import Derived.Test.YtlmenjenkpnacaaLwXL
set_option linter.unusedVariables false
set_option linter.unusedSimpArgs false

section
namespace Go.Proofs.Ytlmenjenkpnacaa
open Go Go.Sy Go.RowKit

def qLwLk32td0 : SG := (.app 76 (.var 2) (.app 81 (.var 1) (.var 0) (.add (.var 7) (.lit 1)) (.lit 0) (.lit 0) (.lit 0) (.cons (.lit 0) (.cons (.lit 0) (.cons (.lit 0) (.cons (.lit 0) (.cons (.lit 1) (.cons (.lit 0) (.cons (.lit 1) (.cons (.lit 2) (.cons (.lit 0) .nil)))))))))) (.lit 0) (.lit 0) (.lit 0) (.lit 0) .nil)
def qLwLk32td1 : SI := (.gi 17 (.app 78 (.var 2) (.var 0) (.lit 121) (.lit 10) (.var 2) (.lit 0) (.cons (.lit 3) (.cons (.lit 3) (.cons (.lit 7) (.cons (.lit 7) (.cons (.lit 8) (.cons (.lit 3) (.cons (.lit 7) (.cons (.lit 10) (.cons (.lit 8) (.cons (.lit 10) .nil))))))))))) (.lit 0) (.lit 0))
def qLwLk32td2 : SG := (.app 2 (.app 1 (.var 0) (.var 0) (.lit 0) (.lit 0) (.lit 0) (.lit 0) .nil) (.app 1 (.var 0) (.var 0) (.lit 0) (.lit 0) (.lit 0) (.lit 0) (.gl 0 (.app 70 (.var 2) (.var 2) (.mul (.var (nLk + 0)) (.lit 10)) (.lit 9) (.lit 0) (.lit 0) .nil) (.lit 0) (.lit 0))) (.lit 0) (.lit 0) (.lit 0) (.lit 0) .nil)
def qLwLk32td3 : SG := (.app 2 (.app 1 (.var 0) (.var 0) (.lit 0) (.lit 0) (.lit 0) (.lit 0) .nil) (.app 1 (.var 0) (.var 0) (.lit 0) (.lit 0) (.lit 0) (.lit 0) (.gl 0 (.app 70 (.var 2) (.var 2) (.mul (.var (nLk + 0)) (.lit 10)) (.lit 7) (.lit 0) (.lit 0) .nil) (.lit 0) (.lit 0))) (.lit 0) (.lit 0) (.lit 0) (.lit 0) .nil)
def qLwLk32td4 : SG := (.app 70 (.var 2) (.var 2) (.mul (.var (nLk + 0)) (.lit 10)) (.lit 4) (.lit 0) (.lit 0) .nil)
def tLwLk32td0 : PC := [((.lt (.var 7) (.var (nLk + 0))), false), ((.eq (.lit 0) (.gi 15 (.var 2) (.mul (.var (nLk + 0)) (.lit 10)) (.lit 0))), true), ((.eq (.lit 0) (.gi 15 (.var 2) (.mul (.var (nLk + 0)) (.lit 10)) (.lit 1))), true), ((.eq (.lit 0) (.gi 15 (.var 2) (.mul (.var (nLk + 0)) (.lit 10)) (.lit 2))), true), ((.eq (.lit 0) (.gi 15 (.var 2) (.mul (.var (nLk + 0)) (.lit 10)) (.lit 3))), true), ((.same (.lit false) (.gb 0 qLwLk32td4 (.lit 0) (.lit 0))), true), ((.same (.lit true) (.gb 0 (.app 70 (.var 2) (.var 2) (.mul (.var (nLk + 0)) (.lit 10)) (.lit 8) (.lit 0) (.lit 0) .nil) (.lit 0) (.lit 0))), true), ((.eq (.var (nLk + 14)) (.gi 15 (.var 2) (.mul (.var (nLk + 0)) (.lit 10)) (.lit 5))), true), ((.eq (.var (nLk + 15)) (.gi 15 (.var 2) (.mul (.var (nLk + 0)) (.lit 10)) (.lit 6))), true), ((.gb 0 qLwLk32td3 (.lit 0) (.lit 0)), true), ((.gb 0 qLwLk32td2 (.lit 0) (.lit 0)), true), ((.lt (.var (nLk + 0)) (.lit 0)), false), ((.lt (.add (.var 7) (.lit 1)) (.var (nLk + 0))), false), ((.gb 0 qLwLk32td0 (.lit 0) (.lit 0)), true), ((.eq qLwLk32td1 (.add (.var 7) (.lit 1))), true), ((.lt (.var 7) (.lit 0)), false), ((.lt (.lit 200) (.var 7)), false), ((.lt (.var 8) (.lit 0)), false), ((.gb 0 (.app 83 (.var 1) (.var 0) (.lit 0) (.lit 0) (.lit 0) (.lit 0) .nil) (.lit 0) (.lit 0)), true)]
def pcLk32td : PC := [((.gb 0 qLwLk32td0 (.lit 0) (.lit 0)), true), ((.eq qLwLk32td1 (.add (.var 7) (.lit 1))), true), ((.lt (.var 7) (.lit 0)), false), ((.lt (.lit 200) (.var 7)), false), ((.lt (.var 8) (.lit 0)), false), ((.gb 0 (.app 83 (.var 1) (.var 0) (.lit 0) (.lit 0) (.lit 0) (.lit 0) .nil) (.lit 0) (.lit 0)), true)]
def stLk32td : Mt := ⟨[], [(15, (.lit 0)), (14, (.lit 2)), (13, (.lit 0)), (12, (.lit 0)), (11, (.lit 0)), (10, (.lit 0)), (0, (.lit 0))], [], [], [], [], [], []⟩
def sLk32td00 : List SumT := [
  ⟨.ret, 1, ⟨[], [], [], [], [], [], [], []⟩, (((.gb 0 qLwLk32td4 (.lit 0) (.lit 0)), true) :: tLwLk32td0)⟩,
  ⟨.ret, 1, ⟨[], [], [], [], [], [], [], []⟩, (((.gb 0 (.app 70 (.var 2) (.var 2) (.mul (.var (nLk + 0)) (.lit 10)) (.lit 8) (.lit 0) (.lit 0) .nil) (.lit 0) (.lit 0)), false) :: ((.gb 0 qLwLk32td4 (.lit 0) (.lit 0)), false) :: tLwLk32td0)⟩,
  ⟨.normal, 0, ⟨[], [(15, (.var (nLk + 15))), (14, (.var (nLk + 14))), (13, (.var (nLk + 13))), (12, (.var (nLk + 12))), (11, (.var (nLk + 11))), (10, (.var (nLk + 10))), (0, (.add (.var (nLk + 0)) (.lit 1)))], [], [], [], [], [], []⟩, (((.lt (.var (nLk + 0)) (.var 7)), true) :: ((.gb 0 (.app 70 (.var 2) (.var 2) (.mul (.var (nLk + 0)) (.lit 10)) (.lit 8) (.lit 0) (.lit 0) .nil) (.lit 0) (.lit 0)), true) :: ((.gb 0 qLwLk32td4 (.lit 0) (.lit 0)), false) :: tLwLk32td0)⟩,
  ⟨.normal, 0, ⟨[], [(15, (.var (nLk + 15))), (14, (.var (nLk + 14))), (13, (.var (nLk + 13))), (12, (.var (nLk + 12))), (11, (.var (nLk + 11))), (10, (.var (nLk + 10))), (0, (.add (.var (nLk + 0)) (.lit 1)))], [], [], [], [], [], []⟩, (((.lt (.var (nLk + 0)) (.var 7)), false) :: ((.gb 0 (.app 70 (.var 2) (.var 2) (.mul (.var (nLk + 0)) (.lit 10)) (.lit 8) (.lit 0) (.lit 0) .nil) (.lit 0) (.lit 0)), true) :: ((.gb 0 qLwLk32td4 (.lit 0) (.lit 0)), false) :: tLwLk32td0)⟩]
def sLk32td01 : List SumT := [
  ⟨.exit 0, 0, ⟨[], [], [], [], [], [], [], []⟩, [((.lt (.var 7) (.var (nLk + 0))), true), ((.lt (.var (nLk + 0)) (.lit 0)), false), ((.lt (.add (.var 7) (.lit 1)) (.var (nLk + 0))), false), ((.gb 0 qLwLk32td0 (.lit 0) (.lit 0)), true), ((.eq qLwLk32td1 (.add (.var 7) (.lit 1))), true), ((.lt (.var 7) (.lit 0)), false), ((.lt (.lit 200) (.var 7)), false), ((.lt (.var 8) (.lit 0)), false), ((.gb 0 (.app 83 (.var 1) (.var 0) (.lit 0) (.lit 0) (.lit 0) (.lit 0) .nil) (.lit 0) (.lit 0)), true)]⟩]
theorem pcLk32td_eq : (eLk32 Try.prog false true).pc = pcLk32td := by kernel_rfl
theorem avLk32td : pav nLk (nLk + 64) pcLk32td = true := by kernel_rfl
theorem stLk32td_ok : mAll nLk 0 0 Try.prog (eLk32 Try.prog false true).fr (eLk32 Try.prog false true).hp (hdLk32 Try.prog false true 0).fr (hdLk32 Try.prog false true 0).hp = some stLk32td := by kernel_rfl
theorem oneLk32td : (loopsAt Try.prog fLk 4).length = 1 := by kernel_rfl
theorem bLk32td00 : sumsLk32 Try.prog false true 0 0 = some sLk32td00 := by kernel_rfl
theorem bLk32td01 : sumsLk32 Try.prog false true 0 1 = some sLk32td01 := by kernel_rfl
theorem hLk32td0 : (hdLk32 Try.prog false true 0).pc = basLk ++ pcLk32td := by kernel_rfl
end Go.Proofs.Ytlmenjenkpnacaa
end

section
namespace Go.Proofs.Ytlmenjenkpnacaa
open Go Go.Sy Go.RowKit

theorem oL3_ok32td : OOK Try.prog (oL3 Try.prog) inM := pruned_ok pr (sameN_ok (opCap_ok (opLoadSt_ok (opAppS_ok (opLoadS_ok (opNilZ_ok (opAppendR_ok pr (opAppendW_ok (opSliceV_ok pr (opSliceT_ok qO_ok))))))))))
structure FLk32td (ν : Env Gh) : Prop where
  len0 : 0 ≤ ν.i 7
  len1 : ν.i 7 ≤ 200
  told : ∀ j, 0 ≤ (tolds (ν.g 1).t j).1 ∧ (tolds (ν.g 1).t j).1 < 18446744073709551616
  seen : nG (ν.g 2) = (se32 (ν.i 0) (ν.i 1) false (b32 false true ν) (ν.g 1).t (ν.i 7 + 1).toNat).map SC.nums
theorem factsLk32td {ν : Env Gh} (hI : ν.I = inM) (h : pcDen ν pcLk32td) : FLk32td ν := by
  have h2 := h
  simp only [pcLk32td, qLwLk32td0, qLwLk32td1, pcDen_cons_iff, pcDen_nil_iff] at h2
  have h8 : (SB.gb 0 (.app 83 (.var 1) (.var 0) (.lit 0) (.lit 0) (.lit 0) (.lit 0) .nil) (.lit 0) (.lit 0)).den ν = true := pcAt h 5 rfl
  rw [x83 hI] at h8
  have h0 : (seen32B 2 (begL32 false true)).den ν = true := pcAt h 0 rfl
  simp only [seen32B, SB.den, SG.den, SI.den, hI, inM, xga, SL.den] at h0
  have h1 : (nG (ν.g 2) == List.map SC.nums (seen32 ((begL32 false true).den ν) (ν.g 1).t (ν.i 7 + 1).toNat)) = true := h0
  rw [se32_lk] at h1
  have h3 := h2.2.2
  simp only [SB.den, decide_eq_true_eq, decide_eq_false_iff_not] at h3
  simp only [SI.den] at h3
  exact ⟨by omega, by omega, fun j => tolds_u64 h8 j, eq_of_beq h1⟩
attribute [local irreducible] nmAt
theorem hpdLk32td {ν : Env Gh} (hI : ν.I = inM) (h : pcDen ν pcLk32td) {k : Nat} (hk : k < 1) {x : Vals Gh} (hJ : JL32 false true k ν x) : pcDen (ν.at nLk x) (hdLk32 Try.prog false true k).pc := by
  have rf : RF nLk ν x (ν.at nLk x) := RF.self rfl
  have F := factsLk32td hI h
  have F0 := F.len0
  have F1 := F.len1
  have hold : pcDen (ν.at nLk x) pcLk32td := pcDen_agree (at_agree (ρ := fun _ => 0) (ρ' := fun _ => 0) (fun _ _ => rfl)) avLk32td h
  have r0 : (ν.at nLk x).i nLk = x.i 0 := rf.i 0 (by decide)
  obtain ⟨j0, j1, j2⟩ := hJ
  have hbas : pcDen (ν.at nLk x) basLk := by
    refine pcDen_cons (lt_of ?_) (pcDen_one (lt_of ?_))
    · simp only [SI.den, r0, Bool.false_eq_true, iff_false]; omega
    · simp only [SI.den, r0, rf.io 7 (by decide), Bool.false_eq_true, iff_false]; omega
  match k, hk with
  | 0, _ => rw [hLk32td0]; exact pcDen_append hbas hold
theorem nxLk32td {ν : Env Gh} (hI : ν.I = inM) (h : pcDen ν pcLk32td) {x y : Vals Gh} {k : Nat} (hk : k < 1) {g : Tgt} (hg : (headsLk32 Try.prog false true)[k]? = some g) (j0 : 0 ≤ x.i 0) (hle : x.i 0 ≤ ν.i 7) (y0 : y.i 0 = x.i 0 + 1)
    (hS : JS32 false (if true then 5 else k) ν (if x.i 0 < ν.i 7 then A32.step false (it32 false (b32 false true ν) (ν.g 1).t (x.i 0).toNat) (tolds (ν.g 1).t (x.i 0).toNat).1 (tolds (ν.g 1).t (x.i 0).toNat).2 else it32 false (b32 false true ν) (ν.g 1).t (x.i 0).toNat) y) {Ow : Prop} (ho : Ow) :
    JL32 false true k ν y ∧ pcDen (ν.at nLk y) g.pc ∧ (ν.i 7 + 2 - y.i 0).toNat < (ν.i 7 + 2 - x.i 0).toNat ∧ Ow := by
  have hJ : JL32 false true k ν y := by
    refine ⟨by omega, by omega, ?_⟩
    rw [y0, it32_next _ _ _ j0 hle]
    exact hS
  have e : g = hdLk32 Try.prog false true k := by unfold hdLk32 hdAt; rw [hg]; rfl
  refine ⟨hJ, ?_, by omega, ho⟩
  rw [e]
  exact hpdLk32td hI h hk hJ
theorem loopLk32td {O' : Orac} (oo' : OOK Try.prog O' inM) : OOK Try.prog (O'.withLoop fLk 4 nLk (eLk32 Try.prog false true).fr (eLk32 Try.prog false true).hp (mkM nLk (gLk (eLk32 Try.prog false true).fr) (bdLk32 Try.prog false true))) inM := by
  have hb : ∀ {ν : Env Gh}, (∀ x ∈ bdLk32 Try.prog false true, x.1.den ν ≠ x.2) → pcDen ν pcLk32td := fun h => by unfold bdLk32 at h; rw [pcLk32td_eq] at h; exact bads_of h
  refine loopC_ok pr oL3_ok32td (rfl : nLk = nmAt 4) (by decide +kernel) oneLk32td (heads := headsLk32 Try.prog false true) (tg := gLk (eLk32 Try.prog false true).fr) (sums := [[(caseE, sLk32td00), (caseB, sLk32td01)]]) (start := stLk32td) (h0 := hdLk32 Try.prog false true 0) (n := 6000) (it := 0) (ghL []) rfl ?_ rfl stLk32td_ok (JL32 false true) (fun _ ν x => (ν.i 7 + 2 - x.i 0).toNat) ?_ ?_ ?_ oo'
  · intro i h ss hh hs c hc
    match i, hh, hs with
    | 0, hh, hs =>
      cases hs
      have e : h = hdLk32 Try.prog false true 0 := by unfold hdLk32 hdAt; rw [hh]; rfl
      subst e
      simp only [List.mem_cons, List.not_mem_nil, or_false] at hc
      rcases hc with rfl | rfl
      · exact bLk32td00
      · exact bLk32td01
    | m + 1, hh, hs => cases hs
  · intro ν hI hbd
    have hp' := hb hbd
    have F := factsLk32td hI hp'
    have F0 := F.len0
    generalize hy : stLk32td.vals (ghL []) ν = y
    have y0 : y.i 0 = 0 := by rw [← hy]; simp only [stLk32td, Mt.vals, lkp_cons, lkp_nil, Nat.reduceEqDiff, reduceIte, SI.den]
    have hJ : JL32 false true 0 ν y := by
      refine ⟨by omega, by omega, ?_⟩
      have em : (min (y.i 0) (ν.i 7)).toNat = 0 := by omega
      rw [em]
      simp only [← hy]
      simp [JS32, stLk32td, Mt.vals, lkp_cons, lkp_nil, SI.den, it32, iterS, b32, wnt32]
    exact ⟨hJ, hpdLk32td hI hp' (by decide) hJ, by constructor <;> simp [stLk32td]⟩
  · intro i h ss hh hs ν x hI hbd hJ _
    have hp' := hb hbd
    have F := factsLk32td hI hp'
    have F0 := F.len0
    have rf : RF nLk ν x (ν.at nLk x) := RF.self rfl
    have r0 : (ν.at nLk x).i nLk = x.i 0 := rf.i 0 (by decide)
    have r7 : (ν.at nLk x).i 7 = ν.i 7 := rf.io 7 (by decide)
    have r3 : (ν.at nLk x).i 3 = ν.i 3 := rf.io 3 (by decide)
    have r16 : (ν.at nLk x).i (nLk + 16) = x.i 16 := rf.i 16 (by decide)
    obtain ⟨j0, j1, j2⟩ := hJ
    by_cases hle : x.i 0 ≤ ν.i 7
    · have em : (min (x.i 0) (ν.i 7)).toNat = (x.i 0).toNat := by omega
      rw [em] at j2
      have hr : ∀ j : Int, 0 ≤ j → j < 10 → (getC ((ν.at nLk x).g 2).s ((ν.at nLk x).i nLk * 10 + j)).x = (getC (A32.obs (ν.i 0) (ν.i 1) false (it32 false (b32 false true ν) (ν.g 1).t (x.i 0).toNat)) j).x ∧ (getC ((ν.at nLk x).g 2).s ((ν.at nLk x).i nLk * 10 + j)).l = (getC (A32.obs (ν.i 0) (ν.i 1) false (it32 false (b32 false true ν) (ν.g 1).t (x.i 0).toNat)) j).l := fun j a b => by
        rw [rf.go 2 (by decide), r0]
        exact rows32R F.seen j0 (by omega) j a b
      match i, hs with
      | 0, hs =>
        cases hs
        obtain ⟨d1, d2, d3⟩ := j2
        refine ⟨_, List.mem_cons_self .., caseE_den (rf.I.trans hI) hr (by rw [r0, r7]; exact hle) ?_⟩
        rw [obs32_dead d1, d2, d3, rf.i 14 (by decide), rf.i 15 (by decide)]
      | m + 1, hs => cases hs
    · have hB : pcDen (ν.at nLk x) caseB := pcDen_one (lt_of (by simp only [SI.den, r0, r7, iff_true]; omega))
      match i, hs with
      | 0, hs => cases hs; exact ⟨_, List.mem_cons_of_mem _ (List.mem_cons_self ..), hB⟩
      | m + 1, hs => cases hs
  · intro i h ss hh hs c hc t ht ν x ν2 hI hbd hJ hpch _ rf hpc
    have hp' := hb hbd
    have F := factsLk32td hI hp'
    have F0 := F.len0
    have F1 := F.len1
    have F_len0 := F.len0
    have F_len1 := F.len1
    have hI2 : ν2.I = inM := rf.I.trans hI
    have qa : ν2.i 0 = ν.i 0 := rf.io 0 (by decide)
    have qn : ν2.i 1 = ν.i 1 := rf.io 1 (by decide)
    have qc : ν2.i 3 = ν.i 3 := rf.io 3 (by decide)
    have q7 : ν2.i 7 = ν.i 7 := rf.io 7 (by decide)
    have qg : ν2.g 1 = ν.g 1 := rf.go 1 (by decide)
    have q0 : ν2.i (nLk + 0) = x.i 0 := rf.i 0 (by decide)
    have q2 : ν2.i (nLk + 2) = x.i 2 := rf.i 2 (by decide)
    have q10 : ν2.i (nLk + 10) = x.i 10 := rf.i 10 (by decide)
    have q11 : ν2.i (nLk + 11) = x.i 11 := rf.i 11 (by decide)
    have q12 : ν2.i (nLk + 12) = x.i 12 := rf.i 12 (by decide)
    have q13 : ν2.i (nLk + 13) = x.i 13 := rf.i 13 (by decide)
    have q14 : ν2.i (nLk + 14) = x.i 14 := rf.i 14 (by decide)
    have q15 : ν2.i (nLk + 15) = x.i 15 := rf.i 15 (by decide)
    have q16 : ν2.i (nLk + 16) = x.i 16 := rf.i 16 (by decide)
    obtain ⟨j0, j1, j2⟩ := hJ
    have T0 := F.told (x.i 0).toNat
    match i, hh, hs with
    | 0, hh, hs =>
      cases hs
      simp only [List.mem_cons, List.not_mem_nil, or_false] at hc
      rcases hc with rfl | rfl
      · simp only [sLk32td00, tLwLk32td0, qLwLk32td0, qLwLk32td1, qLwLk32td2, qLwLk32td3, qLwLk32td4, List.mem_cons, List.not_mem_nil, or_false] at ht
        rcases ht with rfl | rfl | rfl | rfl
        · exfalso
          have e0 := pcAt hpc 0 rfl
          have e1 := pcAt hpc 6 rfl
          simp only [SB.den] at e0 e1
          rw [e0] at e1
          exact absurd e1 (by decide)
        · exfalso
          have e0 := pcAt hpc 0 rfl
          have e1 := pcAt hpc 8 rfl
          simp only [SB.den] at e0 e1
          rw [e0] at e1
          exact absurd e1 (by decide)
        · intro g hg
          dsimp only at hg ⊢
          simp only [pcDen_cons_iff, pcDen_nil_iff, SB.den, decide_eq_true_eq, decide_eq_false_iff_not, beq_iff_eq, beq_eq_false_iff_ne] at hpc
          simp only [SI.den, SG.den, gi10u hI2, gb11u hI2, q7, qn, qa, qg, q0, q2, w64w64, w64s] at hpc
          have hle : x.i 0 ≤ ν.i 7 := by omega
          have em : (min (x.i 0) (ν.i 7)).toNat = (x.i 0).toNat := by omega
          rw [em] at j2
          generalize hy : Mt.vals _ (ghL []) ν2 = y
          have y0 : y.i 0 = x.i 0 + 1 := by rw [← hy]; simp only [Mt.vals, lkp_cons, lkp_nil, Nat.reduceEqDiff, reduceIte, SI.den, q0]
          refine nxLk32td hI hp' (by decide) hg j0 hle y0 ?_ (by constructor <;> simp)
          generalize it32 false (b32 false true ν) (ν.g 1).t (x.i 0).toNat = S at j2 ⊢
          obtain ⟨st, nn, task, dn', cd, v⟩ := S
          obtain ⟨d1, d2, d3⟩ := j2
          dsimp only at d1 d2 d3
          subst d1
          simp only [JS32, ← hy, Mt.vals, lkp_cons, lkp_nil, Nat.reduceEqDiff, reduceIte, SI.den, q14, q15]
          simp [JS32, A32.step, d2, d3]
        · intro g hg
          dsimp only at hg ⊢
          simp only [pcDen_cons_iff, pcDen_nil_iff, SB.den, decide_eq_true_eq, decide_eq_false_iff_not, beq_iff_eq, beq_eq_false_iff_ne] at hpc
          simp only [SI.den, SG.den, gi10u hI2, gb11u hI2, q7, qn, qa, qg, q0, q2, w64w64, w64s] at hpc
          have hle : x.i 0 ≤ ν.i 7 := by omega
          have em : (min (x.i 0) (ν.i 7)).toNat = (x.i 0).toNat := by omega
          rw [em] at j2
          generalize hy : Mt.vals _ (ghL []) ν2 = y
          have y0 : y.i 0 = x.i 0 + 1 := by rw [← hy]; simp only [Mt.vals, lkp_cons, lkp_nil, Nat.reduceEqDiff, reduceIte, SI.den, q0]
          refine nxLk32td hI hp' (by decide) hg j0 hle y0 ?_ (by constructor <;> simp)
          generalize it32 false (b32 false true ν) (ν.g 1).t (x.i 0).toNat = S at j2 ⊢
          obtain ⟨st, nn, task, dn', cd, v⟩ := S
          obtain ⟨d1, d2, d3⟩ := j2
          dsimp only at d1 d2 d3
          subst d1
          simp only [JS32, ← hy, Mt.vals, lkp_cons, lkp_nil, Nat.reduceEqDiff, reduceIte, SI.den, q14, q15]
          simp [JS32, A32.step, d2, d3]
      · simp only [sLk32td01, qLwLk32td0, qLwLk32td1, List.mem_cons, List.not_mem_nil, or_false] at ht
        subst ht
        exact ⟨fun g hg => by cases hg; exact pcDen_nil _, by constructor <;> simp⟩
    | m + 1, hh, hs => cases hs
end Go.Proofs.Ytlmenjenkpnacaa
end
