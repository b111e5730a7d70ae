/- coachyardref32.Init: its state, its loop's head. -/
import Derived.Test.YtlmenjenkpnacaaLwXA
set_option linter.unusedVariables false
set_option linter.unusedSimpArgs false

section
namespace Go.Proofs.Ytlmenjenkpnacaa
open Go Go.Sy Go.RowKit

def fRi : Nat := 43
def tRi : Tmpl := ⟨[.int .i64 (.var 0), .int .u64 (.var 1)], [(.lt (.var 0) (.lit 2), false), (.lt (.lit 256) (.var 0), false), (powB (.var 0), true)], []⟩
def nRi : Nat := nmAt 5
def oRi (P : Program) : Orac := (oSm P).pruned P
def eRi (P : Program) : Leaf := capN 0 (capAll P (oRi P) fRi 5 tRi.args tRi.pc tRi.hp)
def roomRi : SI := .add (.mul (.lit 2) (.var 0)) (.lit 2)
def linkR : SL := .gl 0 (.app 46 (.var 0) (.var 0) (.lit 0) (.var 0) (.var 1) (.var 0) (.rep roomRi (.lit 0))) (.lit 0) (.lit 0)
def bRi (P : Program) : Nat := match (eRi P).fr[5]? with | some v => ptrOf v | none => 0
def hRi (P : Program) : Leaf := let L := eRi P
  { L with fr := (keepFr [0, 1, 5] L.fr).set 6 (.int .i64 (.var nRi)), hp := setList (bRi P) (.var (nRi + 1)) L.hp }
def pRi (P : Program) : PC := [(.lt (.var nRi) (.lit 0), false), (.lt (.lit 256) (.var nRi), false), (.lt (.var 0) (.var nRi), false), (.eq (.len (.var (nRi + 1))) roomRi, true)] ++ (eRi P).pc
def gRi (P : Program) : List Tgt := [⟨.exit 0, (keepFr [5] (hRi P).fr), setList (bRi P) linkR (eRi P).hp, []⟩]
def bodyRi (P : Program) : Option (List Leaf) := codeX P (oRi P) LO7 SZ7 fRi 6000 0 (loopAt P fRi 5) (hRi P).fr (pRi P) (hRi P).hp
def sRi (P : Program) : Option (List SumT) := (bodyRi P).bind (sumsT P nRi LO7 SZ7 (⟨.normal, (hRi P).fr, (hRi P).hp, pRi P⟩ :: gRi P))
def oRiL (P : Program) : Orac := (oRi P).withLoop fRi 5 nRi (eRi P).fr (eRi P).hp (mkM nRi (gRi P) ((eRi P).pc.map fun x => (x.1, !x.2)))
end Go.Proofs.Ytlmenjenkpnacaa
end

section
namespace Go.Proofs.Ytlmenjenkpnacaa
open Go Go.Sy Go.RowKit

def pcRi : PC := [((.lt (.var 0) (.lit 2)), false), ((.lt (.lit 256) (.var 0)), false), ((.or (.eq (.var 0) (.lit 2)) (.or (.eq (.var 0) (.lit 4)) (.or (.eq (.var 0) (.lit 8)) (.or (.eq (.var 0) (.lit 16)) (.or (.eq (.var 0) (.lit 32)) (.or (.eq (.var 0) (.lit 64)) (.or (.eq (.var 0) (.lit 128)) (.eq (.var 0) (.lit 256))))))))), true)]
def startRi : Mt := ⟨[], [(0, (.lit 0))], [(1, (.set (.set (.rep (.add (.mul (.lit 2) (.var 0)) (.lit 2)) (.lit 0)) (.lit 1) (.var 1)) (.lit 0) (.var 1)))], [], [], [], [], []⟩
def sumsRi : List SumT := [
  ⟨.normal, 0, ⟨[], [(0, (.add (.var (nRi + 0)) (.lit 1)))], [(1, (.set (.var (nRi + 1)) (.add (.lit 2) (.mul (.lit 2) (.tmod (.wrap .u64 (.add (.var 1) (.var (nRi + 0)))) (.var 0)))) (.wrap .u64 (.add (.var 1) (.var (nRi + 0))))))], [], [], [], [], []⟩, [((.lt (.var (nRi + 0)) (.var 0)), true), ((.lt (.var (nRi + 0)) (.lit 0)), false), ((.lt (.lit 256) (.var (nRi + 0))), false), ((.lt (.var 0) (.var (nRi + 0))), false), ((.eq (.len (.var (nRi + 1))) (.add (.mul (.lit 2) (.var 0)) (.lit 2))), true), ((.lt (.var 0) (.lit 2)), false), ((.lt (.lit 256) (.var 0)), false), ((.or (.eq (.var 0) (.lit 2)) (.or (.eq (.var 0) (.lit 4)) (.or (.eq (.var 0) (.lit 8)) (.or (.eq (.var 0) (.lit 16)) (.or (.eq (.var 0) (.lit 32)) (.or (.eq (.var 0) (.lit 64)) (.or (.eq (.var 0) (.lit 128)) (.eq (.var 0) (.lit 256))))))))), true)]⟩,
  ⟨.exit 0, 0, ⟨[], [], [], [], [], [((.var (nRi + 1)), (.gl 0 (.app 46 (.var 0) (.var 0) (.lit 0) (.var 0) (.var 1) (.var 0) (.rep (.add (.mul (.lit 2) (.var 0)) (.lit 2)) (.lit 0))) (.lit 0) (.lit 0)))], [], []⟩, [((.lt (.var (nRi + 0)) (.var 0)), false), ((.lt (.var (nRi + 0)) (.lit 0)), false), ((.lt (.lit 256) (.var (nRi + 0))), false), ((.lt (.var 0) (.var (nRi + 0))), false), ((.eq (.len (.var (nRi + 1))) (.add (.mul (.lit 2) (.var 0)) (.lit 2))), true), ((.lt (.var 0) (.lit 2)), false), ((.lt (.lit 256) (.var 0)), false), ((.or (.eq (.var 0) (.lit 2)) (.or (.eq (.var 0) (.lit 4)) (.or (.eq (.var 0) (.lit 8)) (.or (.eq (.var 0) (.lit 16)) (.or (.eq (.var 0) (.lit 32)) (.or (.eq (.var 0) (.lit 64)) (.or (.eq (.var 0) (.lit 128)) (.eq (.var 0) (.lit 256))))))))), true)]⟩]
def ouRi : List CLeaf := [
  ⟨false, (.sl 4149515568884811147059395282481124286311180457409419253886625525280299051380734773970252230793550305310936221067524384139945806684118965079055431557910187950620248476351920435363840 (.lit 0) (.nat (.add (.mul (.lit 2) (.var 0)) (.lit 2))) (.nat (.add (.mul (.lit 2) (.var 0)) (.lit 2)))), [((.lt (.var 0) (.lit 2)), false), ((.lt (.lit 256) (.var 0)), false), ((.or (.eq (.var 0) (.lit 2)) (.or (.eq (.var 0) (.lit 4)) (.or (.eq (.var 0) (.lit 8)) (.or (.eq (.var 0) (.lit 16)) (.or (.eq (.var 0) (.lit 32)) (.or (.eq (.var 0) (.lit 64)) (.or (.eq (.var 0) (.lit 128)) (.eq (.var 0) (.lit 256))))))))), true)], [(4149515568884811147059395282481124286311180457409419253886625525280299051380734773970252230793550305310936221067524384139945806684118965079055431557910187950620248476351920435363840, (.row .u64 (.gl 0 (.app 46 (.var 0) (.var 0) (.lit 0) (.var 0) (.var 1) (.var 0) (.rep (.add (.mul (.lit 2) (.var 0)) (.lit 2)) (.lit 0))) (.lit 0) (.lit 0)) (.nat (.add (.mul (.lit 2) (.var 0)) (.lit 2))) 53))]⟩]
theorem oRi_ok : OOK Try.prog (oRi Try.prog) inM := pruned_ok pr (opLoadS_ok (opAppendW_ok (opSliceT_ok noOrac_ok)))
theorem pcRi_eq : (eRi Try.prog).pc = pcRi := by kernel_rfl
theorem avRi : pav nRi (nRi + 64) pcRi = true := by kernel_rfl
theorem bRi_ : sRi Try.prog = some sumsRi := by kernel_rfl
theorem stRi : mAll nRi 0 0 Try.prog (eRi Try.prog).fr (eRi Try.prog).hp (hRi Try.prog).fr (hRi Try.prog).hp = some startRi := by kernel_rfl
theorem oneRi : (loopsAt Try.prog fRi 5).length = 1 := by kernel_rfl
theorem runRi : runX Try.prog (oRiL Try.prog) fRi tRi.args tRi.pc tRi.hp = some ouRi := by kernel_rfl
theorem factsRi {ν : Env Gh} (h : pcDen ν pcRi) : Pow (ν.i 0) ∧ 2 ≤ ν.i 0 ∧ ν.i 0 ≤ 256 := by
  have h2 : (powB (.var 0)).den ν = true := pcAt h 2 rfl
  have := (powB_den ν (.var 0)).1 h2
  simp only [SI.den] at this
  have h3 := this.le
  exact ⟨this, by omega, by omega⟩
/-- One round lays a turn alone: the task's cell is 0 already. -/
theorem lnG_zero (n : Nat) {size from' i s : Int} (hi : 0 ≤ i) (his : i < size) (hd : size ∣ 18446744073709551616) (es : s = (from' + i) % 18446744073709551616 % size) (hn : (n : Int) = 2 * size + 2) :
    (lnG (List.replicate n 0) 0 size from' i).set (2 + 2 * s).toNat ((from' + i) % 18446744073709551616) = lnG (List.replicate n 0) 0 size from' (i + 1) := by
  have hs : 0 ≤ s ∧ s < size := by rw [es]; exact ⟨Int.emod_nonneg _ (by omega), Int.emod_lt_of_pos _ (by omega)⟩
  rw [← lnG_step (by omega) hi his hd s es (by rw [List.length_replicate]; omega)]
  refine List.ext_getElem (by simp) fun k h h' => ?_
  rw [List.getElem_set, List.getElem_set, List.getElem_set]
  have e1 : ((0 : Int) + 2 + 2 * s).toNat = (2 + 2 * s).toNat := by omega
  simp only [e1]
  by_cases c : (0 + 3 + 2 * s).toNat = k
  · rw [if_pos c, if_neg (by omega), lnG_get, if_neg (by omega)]
    have e : ((k : Int) - 0 - 2) / 2 = s := by omega
    have hr : rnd size from' s = i := by
      rw [Int.emod_emod_of_dvd _ hd] at es
      rw [es]; exact rnd_of hi his
    rw [e, hr, if_neg (by omega)]
    simp only [List.getD_eq_getElem?_getD, List.getElem?_replicate]
    split <;> rfl
  · rw [if_neg c]
attribute [local irreducible] nmAt
theorem oRiL_ok : OOK Try.prog (oRiL Try.prog) inM := by
  have hb : ∀ {ν : Env Gh}, (∀ x ∈ (eRi Try.prog).pc.map fun x => (x.1, !x.2), x.1.den ν ≠ x.2) → pcDen ν pcRi := fun h => by rw [pcRi_eq] at h; exact bads_of h
  have hp : ∀ {ν : Env Gh} {x : Vals Gh}, pcDen ν pcRi → 0 ≤ x.i 0 → x.i 0 ≤ ν.i 0 → ((x.l 1).length : Int) = 2 * ν.i 0 + 2 → pcDen (ν.at nRi x) (pRi Try.prog) := by
    intro ν x h h0 h1 h2
    have F := factsRi h
    have rf : RF nRi ν x (ν.at nRi x) := RF.self rfl
    have r0 : (ν.at nRi x).i nRi = x.i 0 := rf.i 0 (by decide)
    have hold : pcDen (ν.at nRi x) pcRi := pcDen_agree (at_agree (ρ := fun _ => 0) (ρ' := fun _ => 0) (fun _ _ => rfl)) avRi h
    unfold pRi
    rw [pcRi_eq]
    refine pcDen_append (pcDen_cons (lt_of ?_) (pcDen_cons (lt_of ?_) (pcDen_cons (lt_of ?_) (pcDen_one ?_)))) hold
    · simp only [SI.den, r0, Bool.false_eq_true, iff_false]; omega
    · simp only [SI.den, r0, Bool.false_eq_true, iff_false]; omega
    · simp only [SI.den, r0, rf.io 0 (by decide), Bool.false_eq_true, iff_false]; omega
    · simp only [SB.den, beq_iff_eq]
      simp only [roomRi, SI.den, SL.den, rf.l 1 (by decide), rf.io 0 (by decide)]
      omega
  refine loopT_ok pr oRi_ok (rfl : nRi = nmAt 5) (by decide +kernel) oneRi (ghL []) bRi_ stRi
    (fun ν x => 0 ≤ x.i 0 ∧ x.i 0 ≤ ν.i 0 ∧ x.l 1 = lnG (List.replicate (2 * ν.i 0 + 2).toNat 0) 0 (ν.i 0) (ν.i 1) (x.i 0)) (fun ν x => (ν.i 0 - x.i 0).toNat) ?_ ?_ oRi_ok
  · intro ν hI h
    have hp' := hb h
    have F := factsRi hp'
    generalize hy : Mt.vals startRi (ghL []) ν = y
    have y0 : y.i 0 = 0 := by rw [← hy]; simp only [startRi, Mt.vals, lkp_cons, lkp_nil, Nat.reduceEqDiff, reduceIte, SI.den]
    have y1 : y.l 1 = ((List.replicate (2 * ν.i 0 + 2).toNat 0).set (Int.toNat 1) (ν.i 1)).set (Int.toNat 0) (ν.i 1) := by rw [← hy]; simp only [startRi, Mt.vals, lkp_cons, lkp_nil, Nat.reduceEqDiff, reduceIte, SL.den, SI.den]
    refine ⟨⟨by omega, by omega, ?_⟩, hp hp' (by omega) (by omega) (by rw [y1, List.length_set, List.length_set, List.length_replicate]; omega), ?_⟩
    · rw [y1, y0, List.set_comm _ _ (by decide)]
      exact lnG_start (at' := 0) (by omega) (by omega)
    · constructor <;> simp [startRi]
  · intro t ht ν x ν2 hI h hJ _ rf hpc
    have hp' := hb h
    have F := factsRi hp'
    obtain ⟨j0, j1, j2⟩ := hJ
    have q0 : ν2.i (nRi + 0) = x.i 0 := rf.i 0 (by decide)
    have q1 : ν2.l (nRi + 1) = x.l 1 := rf.l 1 (by decide)
    have qn : ν2.i 0 = ν.i 0 := rf.io 0 (by decide)
    have qf : ν2.i 1 = ν.i 1 := rf.io 1 (by decide)
    have hl : ((x.l 1).length : Int) = 2 * ν.i 0 + 2 := by rw [j2, lnG_length, List.length_replicate]; omega
    simp only [sumsRi, List.mem_cons, List.not_mem_nil, or_false] at ht
    rcases ht with rfl | rfl
    · have c := lt_den (pcAt hpc 0 rfl)
      simp only [SI.den, q0, qn, iff_true] at c
      generalize hy : Mt.vals _ (ghL []) ν2 = y
      have y0 : y.i 0 = x.i 0 + 1 := by rw [← hy]; simp only [Mt.vals, lkp_cons, lkp_nil, Nat.reduceEqDiff, reduceIte, SI.den, q0]
      have em : (IntKind.u64.wrap (ν.i 1 + x.i 0)).tmod (ν.i 0) = (ν.i 1 + x.i 0) % 18446744073709551616 % ν.i 0 := by
        rw [wrapU, Int.tmod_eq_emod_of_nonneg (Int.emod_nonneg _ (by omega))]
      generalize hs : (ν.i 1 + x.i 0) % 18446744073709551616 % ν.i 0 = s at em
      have hs0 : 0 ≤ s ∧ s < ν.i 0 := by rw [← hs]; exact ⟨Int.emod_nonneg _ (by omega), Int.emod_lt_of_pos _ (by omega)⟩
      have y1 : y.l 1 = (x.l 1).set (2 + 2 * s).toNat ((ν.i 1 + x.i 0) % 18446744073709551616) := by
        rw [← hy]
        simp only [Mt.vals, lkp_cons, lkp_nil, Nat.reduceEqDiff, reduceIte, SI.den, SL.den, q0, q1, qn, qf, em]
        rw [wrapU]
      refine ⟨⟨by omega, by omega, ?_⟩, hp hp' (by omega) (by omega) (by rw [y1, List.length_set]; exact hl), by show _ < (ν.i 0 - x.i 0).toNat; omega, by constructor <;> simp⟩
      rw [y1, y0, j2]
      exact lnG_zero _ j0 c (pow_dvd64 F.1) hs.symm (by omega)
    · have c := lt_den (pcAt hpc 0 rfl)
      simp only [SI.den, q0, qn, Bool.false_eq_true, iff_false] at c
      have rf3 : ∀ y, RF nRi ν y (ν.at nRi y) := fun y => RF.self rfl
      refine ⟨fun g hg => by cases hg; exact pcDen_nil _, ?_⟩
      constructor
      · simp
      · intro z hz
        simp only [List.mem_cons, List.not_mem_nil, or_false] at hz
        subst hz
        simp only [SL.den, q1]
        rw [j2]
        simp only [SG.den, SI.den, SL.den, (rf3 _).I, hI, (rf3 _).io 0 (by decide), (rf3 _).io 1 (by decide)]
        rw [show x.i 0 = ν.i 0 by omega]
        rfl
      · simp
      · simp
/-! in short: its length as its list's -/
def shLeaf (c : CLeaf) : CLeaf := match c.v with
  | .sl b o _ cp => { c with v := .sl b o (.len linkR) cp, pc := [(.eq (.len linkR) roomRi, true)] }
  | _ => c
def shRi : List CLeaf := ouRi.map shLeaf
theorem shRi_ok : ∀ c ∈ ouRi, ∀ ν : Env Gh, ν.I = inM → pcDen ν c.pc → ∃ c' ∈ shRi, c'.bad = c.bad ∧ (∀ ρ, c'.v.den ν ρ = c.v.den ν ρ) ∧ c'.hp.Sublist c.hp ∧ pcDen ν c'.pc := by
  intro c hc ν hI hp
  refine ⟨_, List.mem_map.2 ⟨c, hc, rfl⟩, ?_⟩
  simp only [ouRi, List.mem_cons, List.not_mem_nil, or_false] at hc
  subst hc
  have h2 : (powB (.var 0)).den ν = true := pcAt hp 2 rfl
  have F := ((powB_den ν (.var 0)).1 h2).le
  simp only [SI.den] at F
  have hl : ((linkR.den ν).length : Int) = 2 * ν.i 0 + 2 := by
    simp only [linkR, roomRi, SL.den, SG.den, SI.den, hI, inM_gl, inM, xga]
    simp only [ghL, lnG_length, List.length_replicate]
    omega
  refine ⟨rfl, fun ρ => ?_, List.Sublist.refl _, pcDen_one (by simp only [SB.den, beq_iff_eq]; simp only [roomRi, SI.den]; exact hl)⟩
  simp only [shLeaf, SV.den, SI.den, hl]
  congr 1
theorem lnRi_ok {O : Orac} (oo : OOK Try.prog O inM) : OOK Try.prog (O.withCallF fRi (sumK Try.prog tRi shRi)) inM := withCallF_ok oo (sum_okC pr oRiL_ok runRi shRi_ok oo)
end Go.Proofs.Ytlmenjenkpnacaa
end

section
namespace Go.Proofs.Ytlmenjenkpnacaa
open Go Go.Sy Go.RowKit

def fRa : Nat := 42
def sizeA : SI := .tdiv (.sub (.len (.var 0)) (.lit 2)) (.lit 2)
/-- the words of a lane: its cells alone; how many, and which. -/
def tRa : Tmpl := ⟨[.sl 0 (.var 0) (.len (.var 0)) (.var 1)], [(.lt (.len (.var 0)) (.lit 6), false), (.lt (.lit 600) (.len (.var 0)), false), (.lt sizeA (.lit 2), false), (.lt (.lit 256) sizeA, false), (.eq (.add (.mul (.lit 2) sizeA) (.lit 2)) (.len (.var 0)), true), (powB sizeA, true), (.lt (.var 0) (.lit 0), false)], [(0, .view .u64 (.var 0) (.var 0))]⟩
def nRa : Nat := nmAt 7
def oRaS (P : Program) : Orac := (oSm P).pruned P
def eRa (P : Program) : Leaf := capN 0 (capAll P (oRaS P) fRa 7 tRa.args tRa.pc tRa.hp)
def topA : SI := .nth (.var 0) (.lit 1)
def manyA : SI := .wrap .i64 (.wrap .u64 (.sub (.nth (.var 0) (.lit 0)) (.nth (.var 0) (.lit 1))))
def listA : SL := .gl 0 (.app 41 (.var 0) (.var 0) (.lit 0) sizeA topA manyA (.var 0)) (.lit 0) (.lit 0)
def hRa (P : Program) : Leaf := hdFrom 8 (hdI nRa 7 0 (hdR P nRa 6 1 (eRa P)))
def pRa (P : Program) : PC := (.lt (.var (nRa + 0)) (.lit 0), false) :: (.lt (.lit 256) (.var (nRa + 0)), false) :: (.lt (.len (.var (nRa + 1))) (.lit 1000), true) :: (eRa P).pc
def xRa (P : Program) : Leaf := { hRa P with fr := ((hRa P).fr.set 6 (.sl (nRa + 1) (.lit 0) (.len listA) (.var (nRa + 1)))).set 7 .dead, hp := hset (nRa + 1) (.row .u64 listA (.var (nRa + 1)) 53) (hRa P).hp }
def gRa (P : Program) : List Tgt := [⟨.exit 0, (xRa P).fr, (xRa P).hp, []⟩]
def bRa (P : Program) : PC := (eRa P).pc.map fun x => (x.1, !x.2)
def sRa (P : Program) : Option (List SumT) := (codeX P (oRaS P) LO7 SZ7 fRa 6000 0 (loopAt P fRa 7) (hRa P).fr (pRa P) (hRa P).hp).bind (sumsT P nRa LO7 SZ7 (⟨.normal, (hRa P).fr, (hRa P).hp, pRa P⟩ :: gRa P))
def oRa (P : Program) : Orac := (oRaS P).withLoop fRa 7 nRa (eRa P).fr (eRa P).hp (mkM nRa (gRa P) (bRa P))
end Go.Proofs.Ytlmenjenkpnacaa
end

section
namespace Go.Proofs.Ytlmenjenkpnacaa
open Go Go.Sy Go.RowKit

def pcRa : PC := [((.lt (.tdiv (.sub (.len (.var 0)) (.lit 2)) (.lit 2)) (.wrap .i64 (.wrap .u64 (.sub (.nth (.var 0) (.lit 0)) (.nth (.var 0) (.lit 1)))))), false), ((.lt (.wrap .i64 (.wrap .u64 (.sub (.nth (.var 0) (.lit 0)) (.nth (.var 0) (.lit 1))))) (.lit 0)), false), ((.lt (.len (.var 0)) (.lit 6)), false), ((.lt (.lit 600) (.len (.var 0))), false), ((.lt (.tdiv (.sub (.len (.var 0)) (.lit 2)) (.lit 2)) (.lit 2)), false), ((.lt (.lit 256) (.tdiv (.sub (.len (.var 0)) (.lit 2)) (.lit 2))), false), ((.eq (.add (.mul (.lit 2) (.tdiv (.sub (.len (.var 0)) (.lit 2)) (.lit 2))) (.lit 2)) (.len (.var 0))), true), ((.or (.eq (.tdiv (.sub (.len (.var 0)) (.lit 2)) (.lit 2)) (.lit 2)) (.or (.eq (.tdiv (.sub (.len (.var 0)) (.lit 2)) (.lit 2)) (.lit 4)) (.or (.eq (.tdiv (.sub (.len (.var 0)) (.lit 2)) (.lit 2)) (.lit 8)) (.or (.eq (.tdiv (.sub (.len (.var 0)) (.lit 2)) (.lit 2)) (.lit 16)) (.or (.eq (.tdiv (.sub (.len (.var 0)) (.lit 2)) (.lit 2)) (.lit 32)) (.or (.eq (.tdiv (.sub (.len (.var 0)) (.lit 2)) (.lit 2)) (.lit 64)) (.or (.eq (.tdiv (.sub (.len (.var 0)) (.lit 2)) (.lit 2)) (.lit 128)) (.eq (.tdiv (.sub (.len (.var 0)) (.lit 2)) (.lit 2)) (.lit 256))))))))), true), ((.lt (.var 0) (.lit 0)), false)]
def startRa : Mt := ⟨[((nRa + 1), 4149515568899862770636515570452368923917387576697021506097739531832533842914136267211667793207534427914086180449008131057548970299910628231036498797276770858318345283619756500320256)], [(0, (.lit 0)), (1, (.lit 0))], [(1, .nil)], [], [((.lit 0), (.len (.var (nRa + 1))))], [], [], []⟩
def sumsRa : List SumT := [
  ⟨.normal, 0, ⟨[((nRa + 1), 5260135901548373507240989921354437020214906514150219571642727095256133619648955758873401297169321318647467302274261975550565812890354608523108732069819721621173204325855548060096335064315600398410089555346587648)], [(0, (.add (.var (nRa + 0)) (.lit 1))), (1, (.var 5260135901548373507240989921354437020214906514150219571642727095256133619648955758873401297169321318647467302274261975550565812890354608523108732069819721621173204325855548060096335064315600398410089555346587648))], [(1, (.app (.var (nRa + 1)) (.cons (.nth (.var 0) (.add (.add (.lit 2) (.mul (.lit 2) (.tmod (.wrap .u64 (.add (.nth (.var 0) (.lit 1)) (.var (nRa + 0)))) (.tdiv (.sub (.len (.var 0)) (.lit 2)) (.lit 2))))) (.lit 1))) .nil)))], [], [((.add (.len (.var (nRa + 1))) (.lit 1)), (.len (.var (nRa + 1))))], [], [], []⟩, [((.lt (.var (nRa + 0)) (.wrap .i64 (.wrap .u64 (.sub (.nth (.var 0) (.lit 0)) (.nth (.var 0) (.lit 1)))))), true), ((.lt (.var (nRa + 0)) (.lit 0)), false), ((.lt (.lit 256) (.var (nRa + 0))), false), ((.lt (.len (.var (nRa + 1))) (.lit 1000)), true), ((.lt (.tdiv (.sub (.len (.var 0)) (.lit 2)) (.lit 2)) (.wrap .i64 (.wrap .u64 (.sub (.nth (.var 0) (.lit 0)) (.nth (.var 0) (.lit 1)))))), false), ((.lt (.wrap .i64 (.wrap .u64 (.sub (.nth (.var 0) (.lit 0)) (.nth (.var 0) (.lit 1))))) (.lit 0)), false), ((.lt (.len (.var 0)) (.lit 6)), false), ((.lt (.lit 600) (.len (.var 0))), false), ((.lt (.tdiv (.sub (.len (.var 0)) (.lit 2)) (.lit 2)) (.lit 2)), false), ((.lt (.lit 256) (.tdiv (.sub (.len (.var 0)) (.lit 2)) (.lit 2))), false), ((.eq (.add (.mul (.lit 2) (.tdiv (.sub (.len (.var 0)) (.lit 2)) (.lit 2))) (.lit 2)) (.len (.var 0))), true), ((.or (.eq (.tdiv (.sub (.len (.var 0)) (.lit 2)) (.lit 2)) (.lit 2)) (.or (.eq (.tdiv (.sub (.len (.var 0)) (.lit 2)) (.lit 2)) (.lit 4)) (.or (.eq (.tdiv (.sub (.len (.var 0)) (.lit 2)) (.lit 2)) (.lit 8)) (.or (.eq (.tdiv (.sub (.len (.var 0)) (.lit 2)) (.lit 2)) (.lit 16)) (.or (.eq (.tdiv (.sub (.len (.var 0)) (.lit 2)) (.lit 2)) (.lit 32)) (.or (.eq (.tdiv (.sub (.len (.var 0)) (.lit 2)) (.lit 2)) (.lit 64)) (.or (.eq (.tdiv (.sub (.len (.var 0)) (.lit 2)) (.lit 2)) (.lit 128)) (.eq (.tdiv (.sub (.len (.var 0)) (.lit 2)) (.lit 2)) (.lit 256))))))))), true), ((.lt (.var 0) (.lit 0)), false)]⟩,
  ⟨.exit 0, 0, ⟨[((nRa + 1), (nRa + 1))], [(1, (.var (nRa + 1)))], [], [], [((.len (.var (nRa + 1))), (.len (.gl 0 (.app 41 (.var 0) (.var 0) (.lit 0) (.tdiv (.sub (.len (.var 0)) (.lit 2)) (.lit 2)) (.nth (.var 0) (.lit 1)) (.wrap .i64 (.wrap .u64 (.sub (.nth (.var 0) (.lit 0)) (.nth (.var 0) (.lit 1))))) (.var 0)) (.lit 0) (.lit 0))))], [((.var (nRa + 1)), (.gl 0 (.app 41 (.var 0) (.var 0) (.lit 0) (.tdiv (.sub (.len (.var 0)) (.lit 2)) (.lit 2)) (.nth (.var 0) (.lit 1)) (.wrap .i64 (.wrap .u64 (.sub (.nth (.var 0) (.lit 0)) (.nth (.var 0) (.lit 1))))) (.var 0)) (.lit 0) (.lit 0)))], [], []⟩, [((.lt (.var (nRa + 0)) (.wrap .i64 (.wrap .u64 (.sub (.nth (.var 0) (.lit 0)) (.nth (.var 0) (.lit 1)))))), false), ((.lt (.var (nRa + 0)) (.lit 0)), false), ((.lt (.lit 256) (.var (nRa + 0))), false), ((.lt (.len (.var (nRa + 1))) (.lit 1000)), true), ((.lt (.tdiv (.sub (.len (.var 0)) (.lit 2)) (.lit 2)) (.wrap .i64 (.wrap .u64 (.sub (.nth (.var 0) (.lit 0)) (.nth (.var 0) (.lit 1)))))), false), ((.lt (.wrap .i64 (.wrap .u64 (.sub (.nth (.var 0) (.lit 0)) (.nth (.var 0) (.lit 1))))) (.lit 0)), false), ((.lt (.len (.var 0)) (.lit 6)), false), ((.lt (.lit 600) (.len (.var 0))), false), ((.lt (.tdiv (.sub (.len (.var 0)) (.lit 2)) (.lit 2)) (.lit 2)), false), ((.lt (.lit 256) (.tdiv (.sub (.len (.var 0)) (.lit 2)) (.lit 2))), false), ((.eq (.add (.mul (.lit 2) (.tdiv (.sub (.len (.var 0)) (.lit 2)) (.lit 2))) (.lit 2)) (.len (.var 0))), true), ((.or (.eq (.tdiv (.sub (.len (.var 0)) (.lit 2)) (.lit 2)) (.lit 2)) (.or (.eq (.tdiv (.sub (.len (.var 0)) (.lit 2)) (.lit 2)) (.lit 4)) (.or (.eq (.tdiv (.sub (.len (.var 0)) (.lit 2)) (.lit 2)) (.lit 8)) (.or (.eq (.tdiv (.sub (.len (.var 0)) (.lit 2)) (.lit 2)) (.lit 16)) (.or (.eq (.tdiv (.sub (.len (.var 0)) (.lit 2)) (.lit 2)) (.lit 32)) (.or (.eq (.tdiv (.sub (.len (.var 0)) (.lit 2)) (.lit 2)) (.lit 64)) (.or (.eq (.tdiv (.sub (.len (.var 0)) (.lit 2)) (.lit 2)) (.lit 128)) (.eq (.tdiv (.sub (.len (.var 0)) (.lit 2)) (.lit 2)) (.lit 256))))))))), true), ((.lt (.var 0) (.lit 0)), false)]⟩]
def ouRa : List CLeaf := [
  ⟨false, (.tup [.nilSl, (.bool (.lit false))]), [((.lt (.wrap .i64 (.wrap .u64 (.sub (.nth (.var 0) (.lit 0)) (.nth (.var 0) (.lit 1))))) (.lit 0)), true), ((.lt (.len (.var 0)) (.lit 6)), false), ((.lt (.lit 600) (.len (.var 0))), false), ((.lt (.tdiv (.sub (.len (.var 0)) (.lit 2)) (.lit 2)) (.lit 2)), false), ((.lt (.lit 256) (.tdiv (.sub (.len (.var 0)) (.lit 2)) (.lit 2))), false), ((.eq (.add (.mul (.lit 2) (.tdiv (.sub (.len (.var 0)) (.lit 2)) (.lit 2))) (.lit 2)) (.len (.var 0))), true), ((.or (.eq (.tdiv (.sub (.len (.var 0)) (.lit 2)) (.lit 2)) (.lit 2)) (.or (.eq (.tdiv (.sub (.len (.var 0)) (.lit 2)) (.lit 2)) (.lit 4)) (.or (.eq (.tdiv (.sub (.len (.var 0)) (.lit 2)) (.lit 2)) (.lit 8)) (.or (.eq (.tdiv (.sub (.len (.var 0)) (.lit 2)) (.lit 2)) (.lit 16)) (.or (.eq (.tdiv (.sub (.len (.var 0)) (.lit 2)) (.lit 2)) (.lit 32)) (.or (.eq (.tdiv (.sub (.len (.var 0)) (.lit 2)) (.lit 2)) (.lit 64)) (.or (.eq (.tdiv (.sub (.len (.var 0)) (.lit 2)) (.lit 2)) (.lit 128)) (.eq (.tdiv (.sub (.len (.var 0)) (.lit 2)) (.lit 2)) (.lit 256))))))))), true), ((.lt (.var 0) (.lit 0)), false)], [(0, (.view .u64 (.var 0) (.var 0)))]⟩,
  ⟨false, (.tup [.nilSl, (.bool (.lit false))]), [((.lt (.tdiv (.sub (.len (.var 0)) (.lit 2)) (.lit 2)) (.wrap .i64 (.wrap .u64 (.sub (.nth (.var 0) (.lit 0)) (.nth (.var 0) (.lit 1)))))), true), ((.lt (.wrap .i64 (.wrap .u64 (.sub (.nth (.var 0) (.lit 0)) (.nth (.var 0) (.lit 1))))) (.lit 0)), false), ((.lt (.len (.var 0)) (.lit 6)), false), ((.lt (.lit 600) (.len (.var 0))), false), ((.lt (.tdiv (.sub (.len (.var 0)) (.lit 2)) (.lit 2)) (.lit 2)), false), ((.lt (.lit 256) (.tdiv (.sub (.len (.var 0)) (.lit 2)) (.lit 2))), false), ((.eq (.add (.mul (.lit 2) (.tdiv (.sub (.len (.var 0)) (.lit 2)) (.lit 2))) (.lit 2)) (.len (.var 0))), true), ((.or (.eq (.tdiv (.sub (.len (.var 0)) (.lit 2)) (.lit 2)) (.lit 2)) (.or (.eq (.tdiv (.sub (.len (.var 0)) (.lit 2)) (.lit 2)) (.lit 4)) (.or (.eq (.tdiv (.sub (.len (.var 0)) (.lit 2)) (.lit 2)) (.lit 8)) (.or (.eq (.tdiv (.sub (.len (.var 0)) (.lit 2)) (.lit 2)) (.lit 16)) (.or (.eq (.tdiv (.sub (.len (.var 0)) (.lit 2)) (.lit 2)) (.lit 32)) (.or (.eq (.tdiv (.sub (.len (.var 0)) (.lit 2)) (.lit 2)) (.lit 64)) (.or (.eq (.tdiv (.sub (.len (.var 0)) (.lit 2)) (.lit 2)) (.lit 128)) (.eq (.tdiv (.sub (.len (.var 0)) (.lit 2)) (.lit 2)) (.lit 256))))))))), true), ((.lt (.var 0) (.lit 0)), false)], [(0, (.view .u64 (.var 0) (.var 0)))]⟩,
  ⟨false, (.tup [(.sl (nRa + 1) (.lit 0) (.len (.gl 0 (.app 41 (.var 0) (.var 0) (.lit 0) (.tdiv (.sub (.len (.var 0)) (.lit 2)) (.lit 2)) (.nth (.var 0) (.lit 1)) (.wrap .i64 (.wrap .u64 (.sub (.nth (.var 0) (.lit 0)) (.nth (.var 0) (.lit 1))))) (.var 0)) (.lit 0) (.lit 0))) (.var (nRa + 1))), (.bool (.lit true))]), [((.lt (.tdiv (.sub (.len (.var 0)) (.lit 2)) (.lit 2)) (.wrap .i64 (.wrap .u64 (.sub (.nth (.var 0) (.lit 0)) (.nth (.var 0) (.lit 1)))))), false), ((.lt (.wrap .i64 (.wrap .u64 (.sub (.nth (.var 0) (.lit 0)) (.nth (.var 0) (.lit 1))))) (.lit 0)), false), ((.lt (.len (.var 0)) (.lit 6)), false), ((.lt (.lit 600) (.len (.var 0))), false), ((.lt (.tdiv (.sub (.len (.var 0)) (.lit 2)) (.lit 2)) (.lit 2)), false), ((.lt (.lit 256) (.tdiv (.sub (.len (.var 0)) (.lit 2)) (.lit 2))), false), ((.eq (.add (.mul (.lit 2) (.tdiv (.sub (.len (.var 0)) (.lit 2)) (.lit 2))) (.lit 2)) (.len (.var 0))), true), ((.or (.eq (.tdiv (.sub (.len (.var 0)) (.lit 2)) (.lit 2)) (.lit 2)) (.or (.eq (.tdiv (.sub (.len (.var 0)) (.lit 2)) (.lit 2)) (.lit 4)) (.or (.eq (.tdiv (.sub (.len (.var 0)) (.lit 2)) (.lit 2)) (.lit 8)) (.or (.eq (.tdiv (.sub (.len (.var 0)) (.lit 2)) (.lit 2)) (.lit 16)) (.or (.eq (.tdiv (.sub (.len (.var 0)) (.lit 2)) (.lit 2)) (.lit 32)) (.or (.eq (.tdiv (.sub (.len (.var 0)) (.lit 2)) (.lit 2)) (.lit 64)) (.or (.eq (.tdiv (.sub (.len (.var 0)) (.lit 2)) (.lit 2)) (.lit 128)) (.eq (.tdiv (.sub (.len (.var 0)) (.lit 2)) (.lit 2)) (.lit 256))))))))), true), ((.lt (.var 0) (.lit 0)), false)], [(0, (.view .u64 (.var 0) (.var 0))), ((nRa + 1), (.row .u64 (.gl 0 (.app 41 (.var 0) (.var 0) (.lit 0) (.tdiv (.sub (.len (.var 0)) (.lit 2)) (.lit 2)) (.nth (.var 0) (.lit 1)) (.wrap .i64 (.wrap .u64 (.sub (.nth (.var 0) (.lit 0)) (.nth (.var 0) (.lit 1))))) (.var 0)) (.lit 0) (.lit 0)) (.var (nRa + 1)) 53))]⟩]
theorem oRaS_ok : OOK Try.prog (oRaS Try.prog) inM := pruned_ok pr (opLoadS_ok (opAppendW_ok (opSliceT_ok noOrac_ok)))
theorem pcRa_eq : (eRa Try.prog).pc = pcRa := by kernel_rfl
theorem avRa : pav nRa (nRa + 64) pcRa = true := by kernel_rfl
theorem bodyRa : sRa Try.prog = some sumsRa := by kernel_rfl
theorem stRa : mAll nRa 0 0 Try.prog (eRa Try.prog).fr (eRa Try.prog).hp (hRa Try.prog).fr (hRa Try.prog).hp = some startRa := by kernel_rfl
theorem oneRa : (loopsAt Try.prog fRa 7).length = 1 := by kernel_rfl
theorem runRa : runX Try.prog (oRa Try.prog) fRa tRa.args tRa.pc tRa.hp = some ouRa := by kernel_rfl
def manyV (l : List Int) : Int := IntKind.i64.wrap (IntKind.u64.wrap (l.getD 0 0 - l.getD 1 0))
def sizeV (l : List Int) : Int := ((l.length : Int) - 2).tdiv 2
theorem factsRa {ν : Env Gh} (h : pcDen ν pcRa) : 2 ≤ sizeV (ν.l 0) ∧ sizeV (ν.l 0) ≤ 256 ∧ 0 ≤ manyV (ν.l 0) ∧ manyV (ν.l 0) ≤ sizeV (ν.l 0) := by
  have h0 := lt_den (pcAt h 0 rfl)
  have h1 := lt_den (pcAt h 1 rfl)
  have h4 := lt_den (pcAt h 4 rfl)
  have h5 := lt_den (pcAt h 5 rfl)
  simp only [SI.den, SL.den, Int.toNat_zero, show (1 : Int).toNat = 1 from rfl, Bool.false_eq_true, iff_false, Int.not_lt] at h0 h1 h4 h5
  exact ⟨h4, h5, h1, h0⟩
attribute [local irreducible] nmAt
theorem oRa_ok : OOK Try.prog (oRa Try.prog) inM := by
  have hb : ∀ {ν : Env Gh}, (∀ x ∈ bRa Try.prog, x.1.den ν ≠ x.2) → pcDen ν pcRa := fun h => by unfold bRa at h; rw [pcRa_eq] at h; exact bads_of h
  have hp : ∀ {ν : Env Gh} {x : Vals Gh}, pcDen ν pcRa → 0 ≤ x.i 0 → x.i 0 ≤ 256 → (x.l 1).length < 1000 → pcDen (ν.at nRa x) (pRa Try.prog) := by
    intro ν x h h0 h1 h2
    have rf : RF nRa ν x (ν.at nRa x) := RF.self rfl
    have r0 : (ν.at nRa x).i (nRa + 0) = x.i 0 := rf.i 0 (by decide)
    have hold : pcDen (ν.at nRa x) pcRa := pcDen_agree (at_agree (ρ := fun _ => 0) (ρ' := fun _ => 0) (fun _ _ => rfl)) avRa h
    unfold pRa
    rw [pcRa_eq]
    refine pcDen_cons (lt_of ?_) (pcDen_cons (lt_of ?_) (pcDen_cons (lt_of ?_) hold))
    · simp only [SI.den, r0, Bool.false_eq_true, iff_false]; omega
    · simp only [SI.den, r0, Bool.false_eq_true, iff_false]; omega
    · simp only [SI.den, SL.den, rf.l 1 (by decide), iff_true]; omega
  refine loopT_ok pr oRaS_ok (rfl : nRa = nmAt 7) (by decide +kernel) oneRa (ghL []) bodyRa stRa
    (fun ν x => ∃ d : Nat, x.i 0 = d ∧ (d : Int) ≤ manyV (ν.l 0) ∧ x.l 1 = slotsG (ν.l 0) 0 (sizeV (ν.l 0)) ((ν.l 0).getD 1 0) d 18446744073709551616 3 2)
    (fun ν x => (manyV (ν.l 0) - x.i 0).toNat) ?_ ?_ oRaS_ok
  · intro ν hI h
    have hp' := hb h
    have F := factsRa hp'
    generalize hy : Mt.vals startRa (ghL []) ν = y
    have y0 : y.i 0 = 0 := by rw [← hy]; simp only [startRa, Mt.vals, lkp_cons, lkp_nil, Nat.reduceEqDiff, reduceIte, SI.den]
    have y1 : y.l 1 = [] := by rw [← hy]; simp only [startRa, Mt.vals, lkp_cons, lkp_nil, Nat.reduceEqDiff, reduceIte, SL.den]
    refine ⟨⟨0, y0, by omega, by rw [y1]; rfl⟩, hp hp' (by omega) (by omega) (by rw [y1]; simp), ?_⟩
    constructor <;> simp [startRa, SI.den, SL.den, at_l, y1]
  · intro t ht ν x ν2 hI h hJ _ rf hpc
    have hp' := hb h
    have F := factsRa hp'
    obtain ⟨d, j0, j1, j2⟩ := hJ
    have q0 : ν2.i (nRa + 0) = x.i 0 := rf.i 0 (by decide)
    have q1 : ν2.l (nRa + 1) = x.l 1 := rf.l 1 (by decide)
    have ql : ν2.l 0 = ν.l 0 := rf.lo 0 (by decide)
    have hl : (x.l 1).length = d := by rw [j2, slotsG_length]; omega
    simp only [sumsRa, List.mem_cons, List.not_mem_nil, or_false] at ht
    rcases ht with rfl | rfl
    · have c := lt_den (pcAt hpc 0 rfl)
      simp only [SI.den, SL.den, q0, ql, Int.toNat_zero, show (1 : Int).toNat = 1 from rfl, iff_true] at c
      have c : x.i 0 < manyV (ν.l 0) := c
      generalize hy : Mt.vals _ (ghL []) ν2 = y
      have y0 : y.i 0 = x.i 0 + 1 := by rw [← hy]; simp only [Mt.vals, lkp_cons, lkp_nil, Nat.reduceEqDiff, reduceIte, SI.den, q0]
      have em : (IntKind.u64.wrap ((ν.l 0).getD 1 0 + x.i 0)).tmod (sizeV (ν.l 0)) = ((ν.l 0).getD 1 0 + x.i 0) % 18446744073709551616 % sizeV (ν.l 0) := by
        rw [wrapU, Int.tmod_eq_emod_of_nonneg (Int.emod_nonneg _ (by omega))]
      have y1 : y.l 1 = x.l 1 ++ [(ν.l 0).getD (2 + 2 * (((ν.l 0).getD 1 0 + x.i 0) % 18446744073709551616 % sizeV (ν.l 0)) + 1).toNat 0] := by
        rw [← em, ← hy]
        simp only [Mt.vals, lkp_cons, lkp_nil, Nat.reduceEqDiff, reduceIte, SI.den, SL.den, q0, q1, ql, show (1 : Int).toNat = 1 from rfl]
        rfl
      refine ⟨⟨d + 1, by omega, by omega, ?_⟩, hp hp' (by omega) (by omega) (by rw [y1]; simp [hl]; omega), by show _ < (manyV (ν.l 0) - x.i 0).toNat; omega, ?_⟩
      · rw [slotsG_step, y1, j2, j0]
        simp only [List.append_cancel_left_eq, List.cons.injEq, and_true]
        congr 2
        omega
      · constructor <;> simp [SI.den, SL.den, at_l, y1, q1]
    · have c := lt_den (pcAt hpc 0 rfl)
      simp only [SI.den, SL.den, q0, ql, Int.toNat_zero, show (1 : Int).toNat = 1 from rfl, Bool.false_eq_true, iff_false, Int.not_lt] at c
      have c : manyV (ν.l 0) ≤ x.i 0 := c
      have rf3 : ∀ y, RF nRa ν y (ν.at nRa y) := fun y => RF.self rfl
      have e : ∀ y, listA.den (ν.at nRa y) = x.l 1 := by
        intro y
        simp only [listA, sizeA, topA, manyA, SL.den, SG.den, SI.den, (rf3 _).I, hI, (rf3 _).lo 0 (by decide), Int.toNat_zero, show (1 : Int).toNat = 1 from rfl]
        rw [j2]
        show slotsG _ _ _ _ (manyV (ν.l 0)) _ _ _ = _
        unfold slotsG
        rw [show (manyV (ν.l 0)).toNat = ((d : Nat) : Int).toNat by omega]
        rfl
      refine ⟨fun g hg => by cases hg; exact pcDen_nil _, ?_⟩
      constructor
      · intro y hy
        simp only [List.mem_cons, List.not_mem_nil, or_false] at hy
        subst hy
        show ((SL.den _ _).length : Int) = ((SL.den (ν.at nRa _) listA).length : Int)
        rw [e]
        simp only [SL.den, q1]
      · intro y hy
        simp only [List.mem_cons, List.not_mem_nil, or_false] at hy
        subst hy
        show SL.den _ _ = SL.den (ν.at nRa _) listA
        rw [e]
        simp only [SL.den, q1]
      · simp
      · simp
/-! in short -/
def shA (c : CLeaf) : CLeaf := match c.v with
  | .tup [.nilSl, _] => { c with pc := c.pc.take (c.pc.length - 7) }
  | _ => { c with pc := (.eq (.len listA) manyA, true) :: c.pc.take (c.pc.length - 7) }
def shRa : List CLeaf := ouRa.map shA
theorem shRa_ok : ∀ c ∈ ouRa, ∀ ν : Env Gh, ν.I = inM → pcDen ν c.pc → ∃ c' ∈ shRa, c'.bad = c.bad ∧ (∀ ρ, c'.v.den ν ρ = c.v.den ν ρ) ∧ c'.hp.Sublist c.hp ∧ pcDen ν c'.pc := by
  intro c hc ν hI hp
  refine ⟨_, List.mem_map.2 ⟨c, hc, rfl⟩, ?_⟩
  have part : ∀ n, pcDen ν (c.pc.take n) := fun n d b hm => hp d b (List.mem_of_mem_take hm)
  have hm : manyA.den ν = manyV (ν.l 0) := by simp only [manyA, SI.den, SL.den, Int.toNat_zero, show (1 : Int).toNat = 1 from rfl]; rfl
  simp only [ouRa, List.mem_cons, List.not_mem_nil, or_false] at hc
  rcases hc with rfl | rfl | rfl
  · exact ⟨rfl, fun _ => rfl, List.Sublist.refl _, part _⟩
  · exact ⟨rfl, fun _ => rfl, List.Sublist.refl _, part _⟩
  · have h1 := lt_den (pcAt hp 1 rfl)
    have h1 : ¬ manyA.den ν < 0 := by simp only [Bool.false_eq_true, iff_false] at h1; exact h1
    refine ⟨rfl, fun _ => rfl, List.Sublist.refl _, pcDen_cons ?_ (part _)⟩
    simp only [SB.den, beq_iff_eq]
    rw [hm] at h1 ⊢
    simp only [SI.den, listA, SL.den, SG.den, hI, inM_gl, inM, xga, hm]
    simp only [ghL, slotsG_length]
    omega
theorem lnRa_ok {O : Orac} (oo : OOK Try.prog O inM) : OOK Try.prog (O.withCallF fRa (sumK Try.prog tRa shRa)) inM := withCallF_ok oo (sum_okC pr oRa_ok runRa shRa_ok oo)
end Go.Proofs.Ytlmenjenkpnacaa
end
