/- queue.Line.Init on any memory: its state, its loop's head. -/
import Derived.Test.YtcbgmkngkkajlaaLwXI
import Derived.Test.YtcbgmkngkkajlaaLwXA
import Derived.Test.YtcbgmkngkkajlaaLwXJ
set_option linter.unusedVariables false
set_option linter.unusedSimpArgs false

section
namespace Go.Proofs.Ytcbgmkngkkajlaa
open Go Go.Sy Go.RowKit

def fQi : Nat := 12
def tQi : Tmpl := ⟨[.agg [.int .i64 (.var 0), .int .i64 (.var 1)], .ptr 0 (.lit 0)], [(.eq (.len (.var 0)) (.var 7), true), (.lt (.lit 120) (.var 7), false), (.lt (.var 7) (.lit 0), false)], [(0, .cells [.sl 1 (.lit 0) (.var 7) (.var 3)] 75 true), (1, .row .u64 (.var 0) (.var 3) 46)]⟩
def nQi : Nat := nmAt 5
def oQi (P : Program) : Orac := ((oSm P).withCallF fIi (sumK P tIi shIi)).pruned P
def eQi (P : Program) : Leaf := capN 0 (capAll P (oQi P) fQi 5 tQi.args tQi.pc tQi.hp)
def cellsQ : SI := .add (.mul (.lit 3) (.var 1)) (.lit 3)
def zL (n : SI) : SL := .gl 0 (.app 50 (.var 0) (.var 0) (.var 0) n (.lit 0) (.lit 0) (.var 0)) (.lit 0) (.lit 0)
def hQi (P : Program) : Leaf := let L := eQi P
  { L with fr := (keepFr [1, 2, 15] L.fr).set 16 (.int .i64 (.var nQi)), hp := setList 1 (.var (nQi + 1)) L.hp }
def pQi (P : Program) : PC := [(.lt (.var nQi) (.lit 0), false), (.lt cellsQ (.var nQi), false), (.lt (.lit 12291) (.var nQi), false), (.lt (.lit 65535) (.var 0), false), (.eq (.len (.var (nQi + 1))) (.var 7), true)] ++ (eQi P).pc
def gQi (P : Program) : List Tgt := [⟨.exit 0, keepFr [1, 2] (hQi P).fr, setList 1 (zL cellsQ) (eQi P).hp, [(.eq (.len (zL cellsQ)) (.var 7), true)]⟩]
def bodyQi (P : Program) : Option (List Leaf) := codeX P (oQi P) LO7 SZ7 fQi 6000 0 (loopAt P fQi 5) (hQi P).fr (pQi P) (hQi P).hp
def sQi (P : Program) : Option (List SumT) := (bodyQi P).bind (sumsT P nQi LO7 SZ7 (⟨.normal, (hQi P).fr, (hQi P).hp, pQi P⟩ :: gQi P))
def bdQi (P : Program) : PC := (eQi P).pc.map fun x => (x.1, !x.2)
def oQiL (P : Program) : Orac := (oQi P).withLoopF fQi 5 nQi (eQi P).fr (eQi P).hp (mkM nQi (gQi P) (bdQi P))
end Go.Proofs.Ytcbgmkngkkajlaa
end

section
namespace Go.Proofs.Ytcbgmkngkkajlaa
open Go Go.Sy Go.RowKit

def pcQi : PC := [((.lt (.add (.add (.var 0) (.mul (.lit 3) (.var 1))) (.lit 2)) (.var 7)), true), ((.lt (.var 0) (.sub (.sub (.lit 65536) (.mul (.lit 3) (.var 1))) (.lit 2))), true), ((.lt (.var 0) (.lit 0)), false), ((.lt (.var 1) (.lit 4097)), true), ((.lt (.var 1) (.lit 2)), false), ((.eq (.len (.var 0)) (.var 7)), true), ((.lt (.lit 120) (.var 7)), false), ((.lt (.var 7) (.lit 0)), false)]
def startQi : Mt := ⟨[], [(0, (.lit 0))], [(1, (.var 0))], [], [], [], [], []⟩
def sumsQi : List SumT := [
  ⟨.normal, 0, ⟨[], [(0, (.add (.var (nQi + 0)) (.lit 1)))], [(1, (.var (nQi + 1)))], [], [], [], [], []⟩, [((.lt (.add (.var 0) (.var (nQi + 0))) (.var 7)), false), ((.lt (.var (nQi + 0)) (.add (.mul (.lit 3) (.var 1)) (.lit 3))), true), ((.lt (.var (nQi + 0)) (.lit 0)), false), ((.lt (.add (.mul (.lit 3) (.var 1)) (.lit 3)) (.var (nQi + 0))), false), ((.lt (.lit 12291) (.var (nQi + 0))), false), ((.lt (.lit 65535) (.var 0)), false), ((.eq (.len (.var (nQi + 1))) (.var 7)), true), ((.lt (.add (.add (.var 0) (.mul (.lit 3) (.var 1))) (.lit 2)) (.var 7)), true), ((.lt (.var 0) (.sub (.sub (.lit 65536) (.mul (.lit 3) (.var 1))) (.lit 2))), true), ((.lt (.var 0) (.lit 0)), false), ((.lt (.var 1) (.lit 4097)), true), ((.lt (.var 1) (.lit 2)), false), ((.eq (.len (.var 0)) (.var 7)), true), ((.lt (.lit 120) (.var 7)), false), ((.lt (.var 7) (.lit 0)), false)]⟩,
  ⟨.normal, 0, ⟨[], [(0, (.add (.var (nQi + 0)) (.lit 1)))], [(1, (.set (.var (nQi + 1)) (.add (.var 0) (.var (nQi + 0))) (.lit 0)))], [], [], [], [], []⟩, [((.lt (.add (.var 0) (.var (nQi + 0))) (.var 7)), true), ((.lt (.var (nQi + 0)) (.add (.mul (.lit 3) (.var 1)) (.lit 3))), true), ((.lt (.var (nQi + 0)) (.lit 0)), false), ((.lt (.add (.mul (.lit 3) (.var 1)) (.lit 3)) (.var (nQi + 0))), false), ((.lt (.lit 12291) (.var (nQi + 0))), false), ((.lt (.lit 65535) (.var 0)), false), ((.eq (.len (.var (nQi + 1))) (.var 7)), true), ((.lt (.add (.add (.var 0) (.mul (.lit 3) (.var 1))) (.lit 2)) (.var 7)), true), ((.lt (.var 0) (.sub (.sub (.lit 65536) (.mul (.lit 3) (.var 1))) (.lit 2))), true), ((.lt (.var 0) (.lit 0)), false), ((.lt (.var 1) (.lit 4097)), true), ((.lt (.var 1) (.lit 2)), false), ((.eq (.len (.var 0)) (.var 7)), true), ((.lt (.lit 120) (.var 7)), false), ((.lt (.var 7) (.lit 0)), false)]⟩,
  ⟨.exit 0, 0, ⟨[], [], [], [], [], [((.var (nQi + 1)), (.gl 0 (.app 50 (.var 0) (.var 0) (.var 0) (.add (.mul (.lit 3) (.var 1)) (.lit 3)) (.lit 0) (.lit 0) (.var 0)) (.lit 0) (.lit 0)))], [], []⟩, [((.lt (.var (nQi + 0)) (.add (.mul (.lit 3) (.var 1)) (.lit 3))), false), ((.lt (.var (nQi + 0)) (.lit 0)), false), ((.lt (.add (.mul (.lit 3) (.var 1)) (.lit 3)) (.var (nQi + 0))), false), ((.lt (.lit 12291) (.var (nQi + 0))), false), ((.lt (.lit 65535) (.var 0)), false), ((.eq (.len (.var (nQi + 1))) (.var 7)), true), ((.lt (.add (.add (.var 0) (.mul (.lit 3) (.var 1))) (.lit 2)) (.var 7)), true), ((.lt (.var 0) (.sub (.sub (.lit 65536) (.mul (.lit 3) (.var 1))) (.lit 2))), true), ((.lt (.var 0) (.lit 0)), false), ((.lt (.var 1) (.lit 4097)), true), ((.lt (.var 1) (.lit 2)), false), ((.eq (.len (.var 0)) (.var 7)), true), ((.lt (.lit 120) (.var 7)), false), ((.lt (.var 7) (.lit 0)), false)]⟩]
def ouQi : List CLeaf := [
  ⟨false, (.int .i64 (.lit 2)), [((.lt (.var 0) (.sub (.sub (.lit 65536) (.mul (.lit 3) (.var 1))) (.lit 2))), false), ((.lt (.var 0) (.lit 0)), false), ((.lt (.var 1) (.lit 4097)), true), ((.lt (.var 1) (.lit 2)), false), ((.eq (.len (.var 0)) (.var 7)), true), ((.lt (.lit 120) (.var 7)), false), ((.lt (.var 7) (.lit 0)), false)], [(0, (.cells [(.sl 1 (.lit 0) (.var 7) (.var 3))] 75 true)), (1, (.row .u64 (.var 0) (.var 3) 46))]⟩,
  ⟨false, (.int .i64 (.lit 3)), [((.lt (.add (.add (.var 0) (.mul (.lit 3) (.var 1))) (.lit 2)) (.var 7)), false), ((.lt (.var 0) (.sub (.sub (.lit 65536) (.mul (.lit 3) (.var 1))) (.lit 2))), true), ((.lt (.var 0) (.lit 0)), false), ((.lt (.var 1) (.lit 4097)), true), ((.lt (.var 1) (.lit 2)), false), ((.eq (.len (.var 0)) (.var 7)), true), ((.lt (.lit 120) (.var 7)), false), ((.lt (.var 7) (.lit 0)), false)], [(0, (.cells [(.sl 1 (.lit 0) (.var 7) (.var 3))] 75 true)), (1, (.row .u64 (.var 0) (.var 3) 46))]⟩,
  ⟨false, (.int .i64 (.lit 0)), [((.eq (.len (.gl 0 (.app 22 (.var 0) (.var 0) (.add (.var 0) (.lit 2)) (.var 1) (.lit 2) (.add (.var 1) (.lit 1)) (.gl 0 (.app 50 (.var 0) (.var 0) (.var 0) (.add (.mul (.lit 3) (.var 1)) (.lit 3)) (.lit 0) (.lit 0) (.var 0)) (.lit 0) (.lit 0))) (.lit 0) (.lit 0))) (.var 7)), true), ((.eq (.len (.gl 0 (.app 50 (.var 0) (.var 0) (.var 0) (.add (.mul (.lit 3) (.var 1)) (.lit 3)) (.lit 0) (.lit 0) (.var 0)) (.lit 0) (.lit 0))) (.var 7)), true), ((.lt (.add (.add (.var 0) (.mul (.lit 3) (.var 1))) (.lit 2)) (.var 7)), true), ((.lt (.var 0) (.sub (.sub (.lit 65536) (.mul (.lit 3) (.var 1))) (.lit 2))), true), ((.lt (.var 0) (.lit 0)), false), ((.lt (.var 1) (.lit 4097)), true), ((.lt (.var 1) (.lit 2)), false), ((.eq (.len (.var 0)) (.var 7)), true), ((.lt (.lit 120) (.var 7)), false), ((.lt (.var 7) (.lit 0)), false)], [(0, (.cells [(.sl 1 (.lit 0) (.len (.gl 0 (.app 50 (.var 0) (.var 0) (.var 0) (.add (.mul (.lit 3) (.var 1)) (.lit 3)) (.lit 0) (.lit 0) (.var 0)) (.lit 0) (.lit 0))) (.var 3))] 75 true)), (1, (.row .u64 (.set (.set (.gl 0 (.app 22 (.var 0) (.var 0) (.add (.var 0) (.lit 2)) (.var 1) (.lit 2) (.add (.var 1) (.lit 1)) (.gl 0 (.app 50 (.var 0) (.var 0) (.var 0) (.add (.mul (.lit 3) (.var 1)) (.lit 3)) (.lit 0) (.lit 0) (.var 0)) (.lit 0) (.lit 0))) (.lit 0) (.lit 0)) (.add (.var 0) (.lit 1)) (.lit 1)) (.var 0) (.lit 1)) (.var 3) 46))]⟩,
  ⟨false, (.int .i64 (.lit 2)), [((.lt (.var 0) (.lit 0)), true), ((.lt (.var 1) (.lit 4097)), true), ((.lt (.var 1) (.lit 2)), false), ((.eq (.len (.var 0)) (.var 7)), true), ((.lt (.lit 120) (.var 7)), false), ((.lt (.var 7) (.lit 0)), false)], [(0, (.cells [(.sl 1 (.lit 0) (.var 7) (.var 3))] 75 true)), (1, (.row .u64 (.var 0) (.var 3) 46))]⟩,
  ⟨false, (.int .i64 (.lit 2)), [((.lt (.var 1) (.lit 4097)), false), ((.lt (.var 1) (.lit 2)), false), ((.eq (.len (.var 0)) (.var 7)), true), ((.lt (.lit 120) (.var 7)), false), ((.lt (.var 7) (.lit 0)), false)], [(0, (.cells [(.sl 1 (.lit 0) (.var 7) (.var 3))] 75 true)), (1, (.row .u64 (.var 0) (.var 3) 46))]⟩,
  ⟨false, (.int .i64 (.lit 2)), [((.lt (.var 1) (.lit 2)), true), ((.eq (.len (.var 0)) (.var 7)), true), ((.lt (.lit 120) (.var 7)), false), ((.lt (.var 7) (.lit 0)), false)], [(0, (.cells [(.sl 1 (.lit 0) (.var 7) (.var 3))] 75 true)), (1, (.row .u64 (.var 0) (.var 3) 46))]⟩]
theorem oQi_ok : OOK Try.prog (oQi Try.prog) inM := pruned_ok pr (arI_ok (opLoadS_ok (opAppendW_ok (opSliceT_ok noOrac_ok))))
theorem oneQi : (loopsAt Try.prog fQi 5).length = 1 := by kernel_rfl
theorem pcQi_eq : (eQi Try.prog).pc = pcQi := by kernel_rfl
theorem avQi : pav nQi (nQi + 64) pcQi = true := by kernel_rfl
theorem bQi : sQi Try.prog = some sumsQi := by kernel_rfl
theorem stQi : mAll nQi 0 0 Try.prog (eQi Try.prog).fr (eQi Try.prog).hp (hQi Try.prog).fr (hQi Try.prog).hp = some startQi := by kernel_rfl
theorem runQi : runX Try.prog (oQiL Try.prog) fQi tQi.args tQi.pc tQi.hp = some ouQi := by kernel_rfl
structure FactsQi (ν : Env Gh) : Prop where
  at0 : 0 ≤ ν.i 0
  at1 : ν.i 0 ≤ 65535
  n1 : 2 ≤ ν.i 1
  n2 : ν.i 1 ≤ 4096
  room : ν.i 0 + 3 * ν.i 1 + 2 < (ν.l 0).length
  len : ν.i 7 = (ν.l 0).length
theorem factsQi {ν : Env Gh} (h : pcDen ν pcQi) : FactsQi ν := by
  simp only [pcQi, pcDen_cons_iff, pcDen_nil_iff, SB.den, decide_eq_true_eq, decide_eq_false_iff_not] at h
  simp only [SI.den, SL.den] at h
  simp only [beq_iff_eq, SI.den, SL.den] at h
  exact ⟨by omega, by omega, by omega, by omega, by omega, by omega⟩
theorem x50 {ν : Env Gh} (hI : ν.I = inM) (a b c d : SI) (l : SL) : (SG.app 50 (.var 0) (.var 0) a b c d l).den ν = ghL (zG (l.den ν) (a.den ν) (b.den ν)) := by simp [SG.den, hI, inM, xga]
attribute [local irreducible] nmAt
theorem oQi_loop {O' : Orac} (oo' : OOK Try.prog O' inM) : OOK Try.prog (O'.withLoop fQi 5 nQi (eQi Try.prog).fr (eQi Try.prog).hp (mkM nQi (gQi Try.prog) (bdQi Try.prog))) inM := by
  have hb : ∀ {ν : Env Gh}, (∀ x ∈ bdQi Try.prog, x.1.den ν ≠ x.2) → pcDen ν pcQi := fun h => by unfold bdQi at h; rw [pcQi_eq] at h; exact bads_of h
  have hp : ∀ {ν : Env Gh} {x : Vals Gh}, pcDen ν pcQi → 0 ≤ x.i 0 → x.i 0 ≤ 3 * ν.i 1 + 3 → (x.l 1).length = (ν.l 0).length → pcDen (ν.at nQi x) (pQi Try.prog) := by
    intro ν x h h0 h1 h2
    have F := factsQi h
    have F1 := F.n2
    have F2 := F.at1
    have F3 := F.len
    have rf : RF nQi ν x (ν.at nQi x) := RF.self rfl
    have r0 : (ν.at nQi x).i nQi = x.i 0 := rf.i 0 (by decide)
    have hold : pcDen (ν.at nQi x) pcQi := pcDen_agree (at_agree (ρ := fun _ => 0) (ρ' := fun _ => 0) (fun _ _ => rfl)) avQi h
    unfold pQi
    rw [pcQi_eq]
    refine pcDen_append (pcDen_cons (lt_of ?_) (pcDen_cons (lt_of ?_) (pcDen_cons (lt_of ?_) (pcDen_cons (lt_of ?_) (pcDen_one ?_))))) hold
    · simp only [SI.den, r0, Bool.false_eq_true, iff_false]; omega
    · simp only [cellsQ, SI.den, r0, rf.io 1 (by decide), Bool.false_eq_true, iff_false]; omega
    · simp only [SI.den, r0, Bool.false_eq_true, iff_false]; omega
    · simp only [SI.den, rf.io 0 (by decide), Bool.false_eq_true, iff_false]; omega
    · simp only [SB.den, beq_iff_eq]
      simp only [SI.den, SL.den, rf.l 1 (by decide), rf.io 7 (by decide)]
      omega
  refine loopT_ok pr oQi_ok (rfl : nQi = nmAt 5) (by decide +kernel) oneQi (ghL []) bQi stQi
    (fun ν x => 0 ≤ x.i 0 ∧ x.i 0 ≤ 3 * ν.i 1 + 3 ∧ x.l 1 = zG (ν.l 0) (ν.i 0) (x.i 0)) (fun ν x => (3 * ν.i 1 + 3 - x.i 0).toNat) ?_ ?_ oo'
  · intro ν hI h
    have hp' := hb h
    obtain ⟨f1, f2, f3, f4, f5, f6⟩ := factsQi hp'
    generalize hy : Mt.vals startQi (ghL []) ν = y
    have y0 : y.i 0 = 0 := by rw [← hy]; simp only [startQi, Mt.vals, lkp_cons, lkp_nil, Nat.reduceEqDiff, reduceIte, SI.den]
    have y1 : y.l 1 = ν.l 0 := by rw [← hy]; simp only [startQi, Mt.vals, lkp_cons, lkp_nil, Nat.reduceEqDiff, reduceIte, SL.den]
    refine ⟨⟨by omega, by omega, ?_⟩, hp hp' (by omega) (by omega) (by rw [y1]), ?_⟩
    · rw [y1, y0, zG_none]
    · constructor <;> simp [startQi]
  · intro t ht ν x ν2 hI h hJ _ rf hpc
    have hp' := hb h
    obtain ⟨f1, f2, f3, f4, f5, f6⟩ := factsQi hp'
    obtain ⟨j0, j1, j2⟩ := hJ
    have q0 : ν2.i (nQi + 0) = x.i 0 := rf.i 0 (by decide)
    have q1 : ν2.l (nQi + 1) = x.l 1 := rf.l 1 (by decide)
    have qa : ν2.i 0 = ν.i 0 := rf.io 0 (by decide)
    have qn : ν2.i 1 = ν.i 1 := rf.io 1 (by decide)
    have q7 : ν2.i 7 = ν.i 7 := rf.io 7 (by decide)
    have ql : ν2.l 0 = ν.l 0 := rf.lo 0 (by decide)
    have hl : (x.l 1).length = (ν.l 0).length := by rw [j2, zG_length]
    simp only [sumsQi, List.mem_cons, List.not_mem_nil, or_false] at ht
    rcases ht with rfl | rfl | rfl
    all_goals
      simp only [pcDen_cons_iff, pcDen_nil_iff, SB.den, decide_eq_true_eq, decide_eq_false_iff_not, beq_iff_eq] at hpc
      simp only [SI.den, SL.den, q0, q1, qa, qn, q7, ql] at hpc
    · exfalso; omega
    · generalize hy : Mt.vals _ (ghL []) ν2 = y
      have y0 : y.i 0 = x.i 0 + 1 := by rw [← hy]; simp only [Mt.vals, lkp_cons, lkp_nil, Nat.reduceEqDiff, reduceIte, SI.den, q0]
      have y1 : y.l 1 = (x.l 1).set (ν.i 0 + x.i 0).toNat 0 := by
        rw [← hy]; simp only [Mt.vals, lkp_cons, lkp_nil, Nat.reduceEqDiff, reduceIte, SI.den, SL.den, q0, q1, qa]
      refine ⟨⟨by omega, by omega, ?_⟩, hp hp' (by omega) (by omega) (by rw [y1, List.length_set]; exact hl), by show _ < (3 * ν.i 1 + 3 - x.i 0).toNat; omega, by constructor <;> simp⟩
      rw [y1, y0, j2, zG_set f1 j0]
    · have rf3 : ∀ y, RF nQi ν y (ν.at nQi y) := fun y => RF.self rfl
      have e : x.i 0 = 3 * ν.i 1 + 3 := by omega
      refine ⟨fun g hg => ?_, ?_⟩
      · cases hg
        refine pcDen_one ?_
        simp only [SB.den, beq_iff_eq]
        simp only [zL, SI.den, SL.den, x50 ((rf3 _).I.trans hI), (rf3 _).I.trans hI, inM_gl, ghL_l, zG_length, (rf3 _).io 7 (by decide), (rf3 _).lo 0 (by decide), f6]
      · constructor
        · simp
        · intro z hz
          simp only [List.mem_cons, List.not_mem_nil, or_false] at hz
          subst hz
          simp only [SL.den, q1, j2, x50 ((rf3 _).I.trans hI), (rf3 _).I.trans hI, inM_gl, ghL_l, SI.den, (rf3 _).io 0 (by decide), (rf3 _).io 1 (by decide), (rf3 _).lo 0 (by decide), e]
        · simp
        · simp
theorem oQiL_ok : OOK Try.prog (oQiL Try.prog) inM := withLoopF_ok oQi_ok (oQi_loop oQi_ok)
/-! in short -/
def zQ : SL := zL cellsQ
def iQ : SL := .gl 0 (.app 22 (.var 0) (.var 0) (.add (.var 0) (.lit 2)) (.var 1) (.lit 2) (.add (.var 1) (.lit 1)) zQ) (.lit 0) (.lit 0)
def sQ : SL := .set (.set iQ (.add (.var 0) (.lit 1)) (.lit 1)) (.var 0) (.lit 1)
def moreQ : PC := [(.eq (.len iQ) (.var 7), true), (.eq (.len zQ) (.var 7), true), (.eq (.nth sQ (.var 0)) (.lit 1), true), (.eq (.nth sQ next1) (.lit 0), true), (.lt (.var 0) (.lit 0), false), (.lt (.lit 65535) (.var 0), false), (.lt (.add (.add (.var 0) (.mul (.lit 3) (.var 1))) (.lit 2)) (.len iQ), true)]
def isZ (c : CLeaf) : Bool := match c.v with
  | .int _ (.lit 0) => true
  | _ => false
def shQiL (c : CLeaf) : CLeaf := if isZ c then { c with pc := moreQ ++ c.pc } else c
def okQi (c : CLeaf) : Bool := !isZ c || c.hp.any fun x => match x.2 with | .row _ l _ _ => l.beq sQ | _ => false
def shQi : List CLeaf := (ouQi.filter okQi).map shQiL
theorem shQi_ok : ∀ c ∈ ouQi, ∀ ν : Env Gh, ν.I = inM → pcDen ν c.pc → ∃ c' ∈ shQi, c'.bad = c.bad ∧ (∀ ρ, c'.v.den ν ρ = c.v.den ν ρ) ∧ c'.hp.Sublist c.hp ∧ pcDen ν c'.pc := by
  intro c hc ν hI hp
  have hz : zQ.den ν = zG (ν.l 0) (ν.i 0) (3 * ν.i 1 + 3) := by simp only [zQ, zL, cellsQ, SL.den, SI.den, x50 hI, hI, inM_gl, ghL_l]
  have hi : iQ.den ν = iG (zG (ν.l 0) (ν.i 0) (3 * ν.i 1 + 3)) (ν.i 0 + 2) (ν.i 1) 2 (ν.i 1 + 1) := by
    have : ∀ l : SL, (SG.app 22 (.var 0) (.var 0) (.add (.var 0) (.lit 2)) (.var 1) (.lit 2) (.add (.var 1) (.lit 1)) l).den ν = ghL (iG (l.den ν) (ν.i 0 + 2) (ν.i 1) 2 (ν.i 1 + 1)) := fun l => by simp [SG.den, hI, inM, SI.den]
    simp only [iQ, SL.den, SI.den, this, hI, inM_gl, ghL_l, hz]
  have hs : sQ.den ν = qL (ν.l 0) (ν.i 0) (ν.i 1) := by simp only [sQ, SL.den, SI.den, hi, qL]
  cases hz0 : isZ c with
  | false => exact ⟨c, List.mem_map.2 ⟨c, List.mem_filter.2 ⟨hc, by simp [okQi, hz0]⟩, by simp [shQiL, hz0]⟩, rfl, fun _ => rfl, List.Sublist.refl _, hp⟩
  | true =>
  have hm : okQi c = true → ∃ c' ∈ shQi, c' = { c with pc := moreQ ++ c.pc } := fun ho => ⟨_, List.mem_map.2 ⟨c, List.mem_filter.2 ⟨hc, ho⟩, rfl⟩, by simp [shQiL, hz0]⟩
  simp only [ouQi, List.mem_cons, List.not_mem_nil, or_false] at hc
  rcases hc with rfl | rfl | rfl | rfl | rfl | rfl | rfl | rfl | rfl
  any_goals (cases hz0; done)
  all_goals
    have hp2 := hp
    have hzl : ((zQ.den ν).length : Int) = (ν.l 0).length := by rw [hz, zG_length]
    have hil : ((iQ.den ν).length : Int) = (ν.l 0).length := by rw [hi, iG_length, zG_length]
    unfold zQ zL cellsQ at hzl
    unfold iQ zQ zL cellsQ at hil
    simp only [pcDen_cons_iff, pcDen_nil_iff, SB.den, decide_eq_true_eq, decide_eq_false_iff_not, beq_iff_eq] at hp2
    simp only [SI.den] at hp2 hzl hil
    simp only [SL.den, SI.den] at hp2 hzl hil
  all_goals try (exfalso; omega)
  obtain ⟨c', hc', rfl⟩ := hm (by kernel_rfl)
  refine ⟨_, hc', rfl, fun _ => rfl, List.Sublist.refl _, pcDen_append ?_ hp⟩
  have a0 : 0 ≤ ν.i 0 := by omega
  have n2 : 2 ≤ ν.i 1 := by omega
  have r2 : ν.i 0 + 3 * ν.i 1 + 2 < (ν.l 0).length := by omega
  refine pcDen_cons ?_ (pcDen_cons ?_ (pcDen_cons ?_ (pcDen_cons ?_ (pcDen_cons (lt_of ?_) (pcDen_cons (lt_of ?_) (pcDen_one (lt_of ?_)))))))
  · simp only [SB.den, beq_iff_eq]; simp only [SI.den, SL.den, hi, zG_length, iG_length]; omega
  · simp only [SB.den, beq_iff_eq]; simp only [SI.den, SL.den, hz, zG_length]; omega
  · simp only [SB.den, beq_iff_eq]
    simp only [SI.den, hs]
    rw [qL_at _ a0 n2 a0 (by omega)]
    unfold qC
    rw [if_neg (by omega), if_pos (by omega)]
  · simp only [SB.den, beq_iff_eq]
    simp only [next1, SI.den, hs]
    rw [qL_at _ a0 n2 (by omega) (by omega)]
    unfold qC
    rw [if_neg (by omega), if_neg (by omega), if_neg (by omega), if_neg (by omega), if_pos (by omega)]
  · simp only [SI.den, Bool.false_eq_true, iff_false]; omega
  · simp only [SI.den, Bool.false_eq_true, iff_false]; omega
  · simp only [SI.den, hi, iG_length, zG_length, iff_true]; omega
theorem quI_ok {O : Orac} (oo : OOK Try.prog O inM) : OOK Try.prog (O.withCallF fQi (sumK Try.prog tQi shQi)) inM := withCallF_ok oo (sum_okC pr oQiL_ok runQi shQi_ok oo)
end Go.Proofs.Ytcbgmkngkkajlaa
end
