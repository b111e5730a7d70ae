/- queue.Line.All on what Init leaves: its state. -/
import Derived.Test.YtcbgmkngkkajlaaLwXA
import Derived.Test.YtcbgmkngkkajlaaSyL
set_option linter.unusedVariables false
set_option linter.unusedSimpArgs false

section
namespace Go.Proofs.Ytcbgmkngkkajlaa
open Go Go.Sy Go.RowKit

def fQa : Nat := 13
def next1 : SI := .add (.add (.add (.var 0) (.lit 2)) (.mul (.lit 2) (.var 1))) (.lit 1)
def hpQf : Heap := [(0, .cells [.sl 1 (.lit 0) (.len (.var 0)) (.var 3)] 75 true), (1, .row .u64 (.var 0) (.var 3) 46)]
def pcQf : PC := [(.eq (.nth (.var 0) (.var 0)) (.lit 1), true), (.eq (.nth (.var 0) next1) (.lit 0), true), (.lt (.var 0) (.lit 0), false), (.lt (.lit 65535) (.var 0), false), (.lt (.var 1) (.lit 2), false), (.lt (.lit 30) (.var 1), false), (.lt (.add (.add (.var 0) (.mul (.lit 3) (.var 1))) (.lit 2)) (.len (.var 0)), true), (.lt (.lit 120) (.len (.var 0)), false)]
def tQf : Tmpl := ⟨[.agg [.int .i64 (.var 0), .int .i64 (.var 1)], .ptr 0 (.lit 0)], pcQf, hpQf⟩
def oQf (P : Program) : Orac := (((oSm P).withOp (opBool P)).withOp (opSliceU P)).pruned P
end Go.Proofs.Ytcbgmkngkkajlaa
end

section
namespace Go.Proofs.Ytcbgmkngkkajlaa
open Go Go.Sy Go.RowKit

def ouQf : List CLeaf := [
  ⟨false, (.tup [(.sl 4149515584392096460854718494571208027454887257313824269695365504080247461869306129586513585672712326228537223043221481445554264983621995967647457703711226005269919814551888361160704 (.lit 1) (.lit 0) (.sub (.var 4149515584392096460854718494571208027454887257313824269695365504080247461869306129586513585672712326228537223043221481445554264983621995967647457703711226005269919814551888361160704) (.lit 1))), (.int .i64 (.lit 0))]), [((.lt (.var 4149515584392096460854718494571208027454887257313824269695365504080247461869306129586513585672712326228537223043221481445554264983621995967647457703711226005269919814551888361160704) (.lit 2)), false), ((.eq (.nth (.var 0) (.var 0)) (.lit 1)), true), ((.eq (.nth (.var 0) (.add (.add (.add (.var 0) (.lit 2)) (.mul (.lit 2) (.var 1))) (.lit 1))) (.lit 0)), true), ((.lt (.var 0) (.lit 0)), false), ((.lt (.lit 65535) (.var 0)), false), ((.lt (.var 1) (.lit 2)), false), ((.lt (.lit 30) (.var 1)), false), ((.lt (.add (.add (.var 0) (.mul (.lit 3) (.var 1))) (.lit 2)) (.len (.var 0))), true), ((.lt (.lit 120) (.len (.var 0))), false)], [(0, (.cells [(.sl 1 (.lit 0) (.len (.var 0)) (.var 3))] 75 true)), (1, (.row .u64 (.var 0) (.var 3) 46)), (4149515568896103550252416028678955351642268946083712014345610154013554417347499047001293651546389103160031336445652464951572378283949016792918119262476010410940090581932032915406848, (.row .u64 (.var 0) (.var 4149515568896103550252416028678955351642268946083712014345610154013554417347499047001293651546389103160031336445652464951572378283949016792918119262476010410940090581932032915406848) 46)), (4149515584392096460854718494571208027454887257313824269695365504080247461869306129586513585672712326228537223043221481445554264983621995967647457703711226005269919814551888361160704, (.row .u64 (.cons (.nth (.var 0) (.add (.add (.add (.var 0) (.lit 2)) (.var 1)) (.lit 1))) .nil) (.var 4149515584392096460854718494571208027454887257313824269695365504080247461869306129586513585672712326228537223043221481445554264983621995967647457703711226005269919814551888361160704) 46))]⟩,
  ⟨false, (.tup [(.sl 4149515584392096460854718494571208027454887257313824269695365504080247461869306129586513585672712326228537223043221481445554264983621995967647457703711226005269919814551888361160704 (.lit 0) (.lit 0) (.sub (.var 4149515584392096460854718494571208027454887257313824269695365504080247461869306129586513585672712326228537223043221481445554264983621995967647457703711226005269919814551888361160704) (.lit 1))), (.int .i64 (.lit 0))]), [((.lt (.var 4149515584392096460854718494571208027454887257313824269695365504080247461869306129586513585672712326228537223043221481445554264983621995967647457703711226005269919814551888361160704) (.lit 2)), true), ((.eq (.nth (.var 0) (.var 0)) (.lit 1)), true), ((.eq (.nth (.var 0) (.add (.add (.add (.var 0) (.lit 2)) (.mul (.lit 2) (.var 1))) (.lit 1))) (.lit 0)), true), ((.lt (.var 0) (.lit 0)), false), ((.lt (.lit 65535) (.var 0)), false), ((.lt (.var 1) (.lit 2)), false), ((.lt (.lit 30) (.var 1)), false), ((.lt (.add (.add (.var 0) (.mul (.lit 3) (.var 1))) (.lit 2)) (.len (.var 0))), true), ((.lt (.lit 120) (.len (.var 0))), false)], [(0, (.cells [(.sl 1 (.lit 0) (.len (.var 0)) (.var 3))] 75 true)), (1, (.row .u64 (.var 0) (.var 3) 46)), (4149515568896103550252416028678955351642268946083712014345610154013554417347499047001293651546389103160031336445652464951572378283949016792918119262476010410940090581932032915406848, (.row .u64 (.var 0) (.var 4149515568896103550252416028678955351642268946083712014345610154013554417347499047001293651546389103160031336445652464951572378283949016792918119262476010410940090581932032915406848) 46)), (4149515584392096460854718494571208027454887257313824269695365504080247461869306129586513585672712326228537223043221481445554264983621995967647457703711226005269919814551888361160704, (.row .u64 (.cons (.nth (.var 0) (.add (.add (.add (.var 0) (.lit 2)) (.var 1)) (.lit 1))) .nil) (.var 4149515584392096460854718494571208027454887257313824269695365504080247461869306129586513585672712326228537223043221481445554264983621995967647457703711226005269919814551888361160704) 46))]⟩]
theorem oQf_ok : OOK Try.prog (oQf Try.prog) inM := pruned_ok pr (opSliceU_ok (opBool_ok (opLoadS_ok (opAppendW_ok (opSliceT_ok noOrac_ok)))))
theorem runQf : runX Try.prog (oQf Try.prog) fQa tQf.args tQf.pc tQf.hp = some ouQf := by kernel_rfl
/-- what is left of it: the memory as it was -/
def shQf : List CLeaf := ouQf.map fun c => { c with hp := c.hp.filter fun x => Nat.ble x.1 1 }
/-- asked where two cells were laid last alone -/
def isSet (args : List SV) (hp : Heap) : Bool := match args with
  | [_, .ptr b _] => match hget b hp with
    | some (.cells (.sl q _ _ _ :: _) _ _) => match hget q hp with
      | some (.row _ (.set _ _ _) _ _) => true
      | _ => false
    | _ => false
  | _ => false
def kQf (P : Program) (lo : Nat) (args : List SV) (pc : PC) (hp : Heap) : Option (List CLeaf) := if isSet args hp then sumK P tQf shQf lo args pc hp else none
theorem quF_ok {O : Orac} (oo : OOK Try.prog O inM) : OOK Try.prog (O.withCallF fQa (kQf Try.prog)) inM := by
  have h : OOK Try.prog (O.withCall fQa (sumK Try.prog tQf shQf)) inM := sum_okC pr oQf_ok runQf (fun c hc ν hI hp => ⟨{ c with hp := c.hp.filter fun x => Nat.ble x.1 1 }, List.mem_map.2 ⟨c, hc, rfl⟩, rfl, fun _ => rfl, List.filter_sublist, hp⟩) oo
  refine withCallF_ok oo ⟨?_, oo.loop, oo.op, oo.tail, oo.order⟩
  intro f lo args pc hp cs ho
  refine h.call ?_
  revert ho
  unfold Orac.withCall
  simp only
  split
  · intro ho
    unfold kQf at ho
    split at ho
    · exact ho
    · cases ho
  · exact id
end Go.Proofs.Ytcbgmkngkkajlaa
end

section
namespace Go.Proofs.Ytcbgmkngkkajlaa
open Go Go.Sy Go.RowKit

def fIr : Nat := 37
def tIr : Tmpl := ⟨[.int .i64 (.var 0), .int .i64 (.var 1)], [(.lt (.var 0) (.lit 1), false), (.lt (.lit 60) (.var 0), false), (.lt (.var 1) (.lit 1), false), (.lt (.add (.var 0) (.lit 1)) (.var 1), false)], []⟩
def nIr : Nat := nmAt 5
def oIr (P : Program) : Orac := (oSm P).pruned P
def eIr (P : Program) : Leaf := capN 0 (capAll P (oIr P) fIr 5 tIr.args tIr.pc tIr.hp)
def manyR : SI := .add (.var 0) (.lit 1)
def linkG (i : SI) : SL := .gl 0 (.app 22 (.var 0) (.var 0) (.lit 0) (.var 0) (.var 1) i (.rep manyR (.lit 0))) (.lit 0) (.lit 0)
def bIr (P : Program) : Nat := match (eIr P).fr[5]? with | some v => ptrOf v | none => 0
def hIr (P : Program) : Leaf := let L := eIr P
  { L with fr := (keepFr [0, 1, 5] L.fr).set 6 (.int .i64 (.var nIr)), hp := setList (bIr P) (.var (nIr + 1)) L.hp }
def pIr (P : Program) : PC := [(.lt (.var nIr) (.var 1), false), (.lt (.var 0) (.var nIr), false), (.eq (.len (.var (nIr + 1))) manyR, true)] ++ (eIr P).pc
def gIr (P : Program) : List Tgt := [⟨.exit 0, keepFr [5] (hIr P).fr, setList (bIr P) (linkG manyR) (eIr P).hp, []⟩]
def bodyIr (P : Program) : Option (List Leaf) := codeX P (oIr P) LO7 SZ7 fIr 6000 0 (loopAt P fIr 5) (hIr P).fr (pIr P) (hIr P).hp
def sIr (P : Program) : Option (List SumT) := (bodyIr P).bind (sumsT P nIr LO7 SZ7 (⟨.normal, (hIr P).fr, (hIr P).hp, pIr P⟩ :: gIr P))
def oIrL (P : Program) : Orac := (oIr P).withLoopF fIr 5 nIr (eIr P).fr (eIr P).hp (mkM nIr (gIr P) ((eIr P).pc.map fun x => (x.1, !x.2)))
end Go.Proofs.Ytcbgmkngkkajlaa
end

section
namespace Go.Proofs.Ytcbgmkngkkajlaa
open Go Go.Sy Go.RowKit

def pcIr : PC := [((.lt (.var 0) (.var 1)), false), ((.lt (.var 0) (.lit 1)), false), ((.lt (.lit 60) (.var 0)), false), ((.lt (.var 1) (.lit 1)), false), ((.lt (.add (.var 0) (.lit 1)) (.var 1)), false)]
def startIr : Mt := ⟨[], [(0, (.var 1))], [(1, (.set (.rep (.add (.var 0) (.lit 1)) (.lit 0)) (.lit 0) (.wrap .u64 (.var 1))))], [], [], [], [], []⟩
def sumsIr : List SumT := [
  ⟨.normal, 0, ⟨[], [(0, (.add (.var (nIr + 0)) (.lit 1)))], [(1, (.set (.var (nIr + 1)) (.var (nIr + 0)) (.wrap .u64 (.add (.wrap .u64 (.var (nIr + 0))) (.lit 1)))))], [], [], [], [], []⟩, [((.lt (.var (nIr + 0)) (.var 0)), true), ((.lt (.var (nIr + 0)) (.var 1)), false), ((.lt (.var 0) (.var (nIr + 0))), false), ((.eq (.len (.var (nIr + 1))) (.add (.var 0) (.lit 1))), true), ((.lt (.var 0) (.var 1)), false), ((.lt (.var 0) (.lit 1)), false), ((.lt (.lit 60) (.var 0)), false), ((.lt (.var 1) (.lit 1)), false), ((.lt (.add (.var 0) (.lit 1)) (.var 1)), false)]⟩,
  ⟨.exit 0, 0, ⟨[], [], [], [], [], [((.var (nIr + 1)), (.gl 0 (.app 22 (.var 0) (.var 0) (.lit 0) (.var 0) (.var 1) (.add (.var 0) (.lit 1)) (.rep (.add (.var 0) (.lit 1)) (.lit 0))) (.lit 0) (.lit 0)))], [], []⟩, [((.lt (.var (nIr + 0)) (.var 0)), false), ((.lt (.var (nIr + 0)) (.var 1)), false), ((.lt (.var 0) (.var (nIr + 0))), false), ((.eq (.len (.var (nIr + 1))) (.add (.var 0) (.lit 1))), true), ((.lt (.var 0) (.var 1)), false), ((.lt (.var 0) (.lit 1)), false), ((.lt (.lit 60) (.var 0)), false), ((.lt (.var 1) (.lit 1)), false), ((.lt (.add (.var 0) (.lit 1)) (.var 1)), false)]⟩]
def ouIr : List CLeaf := [
  ⟨false, (.sl 4149515568884796405018673323335217092738598471984064109663108273559875706824874439500867886462096843878415995837963675279105842762849825350209220914188967007517703817382999929913344 (.lit 0) (.nat (.add (.var 0) (.lit 1))) (.nat (.add (.var 0) (.lit 1)))), [((.lt (.var 0) (.var 1)), false), ((.lt (.var 0) (.lit 1)), false), ((.lt (.lit 60) (.var 0)), false), ((.lt (.var 1) (.lit 1)), false), ((.lt (.add (.var 0) (.lit 1)) (.var 1)), false)], [(4149515568884796405018673323335217092738598471984064109663108273559875706824874439500867886462096843878415995837963675279105842762849825350209220914188967007517703817382999929913344, (.row .u64 (.gl 0 (.app 22 (.var 0) (.var 0) (.lit 0) (.var 0) (.var 1) (.add (.var 0) (.lit 1)) (.rep (.add (.var 0) (.lit 1)) (.lit 0))) (.lit 0) (.lit 0)) (.nat (.add (.var 0) (.lit 1))) 46))]⟩,
  ⟨false, (.sl 4149515568884796405018673323335217092738598471984064109663108273559875706824874439500867886462096843878415995837963675279105842762849825350209220914188967007517703817382999929913344 (.lit 0) (.nat (.add (.var 0) (.lit 1))) (.nat (.add (.var 0) (.lit 1)))), [((.lt (.var 0) (.var 1)), true), ((.lt (.var 0) (.lit 1)), false), ((.lt (.lit 60) (.var 0)), false), ((.lt (.var 1) (.lit 1)), false), ((.lt (.add (.var 0) (.lit 1)) (.var 1)), false)], [(4149515568884796405018673323335217092738598471984064109663108273559875706824874439500867886462096843878415995837963675279105842762849825350209220914188967007517703817382999929913344, (.row .u64 (.rep (.add (.var 0) (.lit 1)) (.lit 0)) (.nat (.add (.var 0) (.lit 1))) 46))]⟩]
theorem oIr_ok : OOK Try.prog (oIr Try.prog) inM := pruned_ok pr (opLoadS_ok (opAppendW_ok (opSliceT_ok noOrac_ok)))
theorem pcIr_eq : (eIr Try.prog).pc = pcIr := by kernel_rfl
theorem avIr : pav nIr (nIr + 64) pcIr = true := by kernel_rfl
theorem bIr_ : sIr Try.prog = some sumsIr := by kernel_rfl
theorem stIr : mAll nIr 0 0 Try.prog (eIr Try.prog).fr (eIr Try.prog).hp (hIr Try.prog).fr (hIr Try.prog).hp = some startIr := by kernel_rfl
theorem oneIr : (loopsAt Try.prog fIr 5).length = 1 := by kernel_rfl
theorem runIr : runX Try.prog (oIrL Try.prog) fIr tIr.args tIr.pc tIr.hp = some ouIr := by kernel_rfl
theorem factsIr {ν : Env Gh} (h : pcDen ν pcIr) : 1 ≤ ν.i 0 ∧ ν.i 0 ≤ 60 ∧ 1 ≤ ν.i 1 ∧ ν.i 1 ≤ ν.i 0 := by
  simp only [pcIr, pcDen_cons_iff, pcDen_nil_iff, SB.den, decide_eq_true_eq, decide_eq_false_iff_not] at h
  simp only [SI.den, SL.den] at h
  omega
attribute [local irreducible] nmAt
theorem oIrL_ok' : OOK Try.prog ((oIr Try.prog).withLoop fIr 5 nIr (eIr Try.prog).fr (eIr Try.prog).hp (mkM nIr (gIr Try.prog) ((eIr Try.prog).pc.map fun x => (x.1, !x.2)))) inM := by
  have hb : ∀ {ν : Env Gh}, (∀ x ∈ (eIr Try.prog).pc.map fun x => (x.1, !x.2), x.1.den ν ≠ x.2) → pcDen ν pcIr := fun h => by rw [pcIr_eq] at h; exact bads_of h
  have hp : ∀ {ν : Env Gh} {x : Vals Gh}, pcDen ν pcIr → ν.i 1 ≤ x.i 0 → x.i 0 ≤ ν.i 0 → ((x.l 1).length : Int) = ν.i 0 + 1 → pcDen (ν.at nIr x) (pIr Try.prog) := by
    intro ν x h h0 h1 h2
    have rf : RF nIr ν x (ν.at nIr x) := RF.self rfl
    have r0 : (ν.at nIr x).i nIr = x.i 0 := rf.i 0 (by decide)
    have hold : pcDen (ν.at nIr x) pcIr := pcDen_agree (at_agree (ρ := fun _ => 0) (ρ' := fun _ => 0) (fun _ _ => rfl)) avIr h
    unfold pIr
    rw [pcIr_eq]
    refine pcDen_append (pcDen_cons (lt_of ?_) (pcDen_cons (lt_of ?_) (pcDen_one ?_))) hold
    · simp only [SI.den, r0, rf.io 1 (by decide), Bool.false_eq_true, iff_false]; omega
    · simp only [SI.den, r0, rf.io 0 (by decide), Bool.false_eq_true, iff_false]; omega
    · simp only [SB.den, beq_iff_eq]
      simp only [manyR, SI.den, SL.den, rf.l 1 (by decide), rf.io 0 (by decide)]
      omega
  refine loopT_ok pr oIr_ok (rfl : nIr = nmAt 5) (by decide +kernel) oneIr (ghL []) bIr_ stIr
    (fun ν x => ν.i 1 ≤ x.i 0 ∧ x.i 0 ≤ ν.i 0 ∧ x.l 1 = iG (List.replicate (ν.i 0 + 1).toNat 0) 0 (ν.i 0) (ν.i 1) (x.i 0)) (fun ν x => (ν.i 0 - x.i 0).toNat) ?_ ?_ oIr_ok
  · intro ν hI h
    have hp' := hb h
    obtain ⟨f1, f2, f3, f4⟩ := factsIr hp'
    generalize hy : Mt.vals startIr (ghL []) ν = y
    have y0 : y.i 0 = ν.i 1 := by rw [← hy]; simp only [startIr, Mt.vals, lkp_cons, lkp_nil, Nat.reduceEqDiff, reduceIte, SI.den]
    have y1 : y.l 1 = (List.replicate (ν.i 0 + 1).toNat 0).set 0 (ν.i 1) := by
      rw [← hy]; simp only [startIr, Mt.vals, lkp_cons, lkp_nil, Nat.reduceEqDiff, reduceIte, SL.den, SI.den]
      rw [wrapU, Int.emod_eq_of_lt (by omega) (by omega)]; rfl
    refine ⟨⟨by omega, by omega, ?_⟩, hp hp' (by omega) (by omega) (by rw [y1, List.length_set, List.length_replicate]; omega), ?_⟩
    · rw [y1, y0]
      exact iG_begin f3 f4
    · constructor <;> simp [startIr]
  · intro t ht ν x ν2 hI h hJ _ rf hpc
    have hp' := hb h
    obtain ⟨f1, f2, f3, f4⟩ := factsIr hp'
    obtain ⟨j0, j1, j2⟩ := hJ
    have q0 : ν2.i (nIr + 0) = x.i 0 := rf.i 0 (by decide)
    have q1 : ν2.l (nIr + 1) = x.l 1 := rf.l 1 (by decide)
    have qn : ν2.i 0 = ν.i 0 := rf.io 0 (by decide)
    have hl : ((x.l 1).length : Int) = ν.i 0 + 1 := by rw [j2, iG_length, List.length_replicate]; omega
    simp only [sumsIr, List.mem_cons, List.not_mem_nil, or_false] at ht
    rcases ht with rfl | rfl
    · have c := lt_den (pcAt hpc 0 rfl)
      simp only [SI.den, q0, qn, iff_true] at c
      generalize hy : Mt.vals _ (ghL []) ν2 = y
      have y0 : y.i 0 = x.i 0 + 1 := by rw [← hy]; simp only [Mt.vals, lkp_cons, lkp_nil, Nat.reduceEqDiff, reduceIte, SI.den, q0]
      have y1 : y.l 1 = (x.l 1).set (0 + x.i 0).toNat (x.i 0 + 1) := by
        rw [← hy]
        simp only [Mt.vals, lkp_cons, lkp_nil, Nat.reduceEqDiff, reduceIte, SI.den, SL.den, q0, q1]
        rw [wrapU (x.i 0), Int.emod_eq_of_lt (a := x.i 0) (by omega) (by omega), wrapU, Int.emod_eq_of_lt (by omega) (by omega), Int.zero_add]
      refine ⟨⟨by omega, by omega, ?_⟩, hp hp' (by omega) (by omega) (by rw [y1, List.length_set]; exact hl), by show _ < (ν.i 0 - x.i 0).toNat; omega, by constructor <;> simp⟩
      rw [y1, y0, j2]
      exact iG_set (by omega) (by omega) (by rw [if_pos (by omega)])
    · have c := lt_den (pcAt hpc 0 rfl)
      simp only [SI.den, q0, qn, Bool.false_eq_true, iff_false] at c
      have rf3 : ∀ y, RF nIr ν y (ν.at nIr y) := fun y => RF.self rfl
      refine ⟨fun g hg => by cases hg; exact pcDen_nil _, ?_⟩
      constructor
      · simp
      · intro z hz
        simp only [List.mem_cons, List.not_mem_nil, or_false] at hz
        subst hz
        simp only [SL.den, q1]
        rw [j2]
        simp only [SG.den, SI.den, SL.den, (rf3 _).I, hI, (rf3 _).io 0 (by decide), (rf3 _).io 1 (by decide)]
        rw [show x.i 0 = ν.i 0 by omega, iG_last]
        rfl
      · simp
      · simp
theorem oIrL_ok : OOK Try.prog (oIrL Try.prog) inM := withLoopF_ok oIr_ok oIrL_ok'
/-! in short: its length as its list's -/
def lenG : SB := .eq (.len (linkG manyR)) manyR
def shIrL (c : CLeaf) : CLeaf := match c.v, c.hp with
  | .sl b o _ cp, [(_, .row _ (.gl _ _ _ _) _ _)] => { c with v := .sl b o (.len (linkG manyR)) cp, pc := (lenG, true) :: c.pc }
  | _, _ => c
def shIr : List CLeaf := ouIr.map shIrL
theorem shIr_ok : ∀ c ∈ ouIr, ∀ ν : Env Gh, ν.I = inM → pcDen ν c.pc → ∃ c' ∈ shIr, c'.bad = c.bad ∧ (∀ ρ, c'.v.den ν ρ = c.v.den ν ρ) ∧ c'.hp.Sublist c.hp ∧ pcDen ν c'.pc := by
  intro c hc ν hI hp
  refine ⟨_, List.mem_map.2 ⟨c, hc, rfl⟩, ?_⟩
  simp only [ouIr, List.mem_cons, List.not_mem_nil, or_false] at hc
  rcases hc with rfl | rfl
  · have F := lt_den (pcAt hp 1 rfl)
    simp only [SI.den, Bool.false_eq_true, iff_false] at F
    have hl : (((linkG manyR).den ν).length : Int) = ν.i 0 + 1 := by
      simp only [linkG, manyR, SL.den, SG.den, SI.den, hI, inM_gl, inM, ghL, iG_length, List.length_replicate]
      omega
    refine ⟨rfl, fun ρ => ?_, List.Sublist.refl _, pcDen_cons (by simp only [lenG, SB.den, beq_iff_eq]; simp only [manyR, SI.den]; exact hl) hp⟩
    simp only [shIrL, SV.den, SI.den, hl]
    congr 1
  · exact ⟨rfl, fun _ => rfl, List.Sublist.refl _, hp⟩
theorem arR_ok {O : Orac} (oo : OOK Try.prog O inM) : OOK Try.prog (O.withCallF fIr (sumK Try.prog tIr shIr)) inM := withCallF_ok oo (sum_okC pr oIrL_ok runIr shIr_ok oo)
end Go.Proofs.Ytcbgmkngkkajlaa
end
