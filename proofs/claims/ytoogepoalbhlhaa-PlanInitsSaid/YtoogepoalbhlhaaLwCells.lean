/- The cells' calls: are two slices the same; an access of a memory, and of the document's list. -/
import Derived.Test.YtoogepoalbhlhaaLwBase
import Derived.Test.YtoogepoalbhlhaaSy23
set_option linter.unusedVariables false
set_option linter.unusedSimpArgs false
namespace Go.Proofs.Ytoogepoalbhlhaa
open Go Go.Sy Go.RowKit

def aX : SV := .sl 0 (.var 0) (.len (.var 0)) (.var 1)
def bX : SV := .sl 1 (.var 2) (.len (.var 1)) (.var 3)
def hpX : Heap := [(0, .view .u64 (.var 0) (.var 0)), (1, .view .u64 (.var 2) (.var 1))]
def pcX : PC := [(.lt (.var 0) (.lit 0), false), (.lt (.var 2) (.lit 0), false)]
def frE (P : Program) (f : Nat) : List SV := (capL P noOrac f 4 [aX, bX] pcX hpX).fr
def nmE : Nat := nmAt 4
def frEI (P : Program) (f at' n : Nat) : List SV := deadFrom n (((frE P f).set 5 .dead).set at' (.int .i64 (.var nmE)))
def frER (P : Program) (f at' n : Nat) : List SV := deadFrom n (((frE P f).set 5 .dead).set at' .dead)
def pcEI : PC := [(.eq (.len (.var 0)) (.len (.var 1)), true), (.lt (.var 0) (.lit 0), false), (.lt (.var 2) (.lit 0), false), (.lt (.var nmE) (.lit 0), false)]
def badE : PC := [(.eq (.len (.var 0)) (.len (.var 1)), false), (.lt (.var 0) (.lit 0), true), (.lt (.var 2) (.lit 0), true), (.lt (.lit 9223372036854775807) (.len (.var 0)), true)]
def tgE (P : Program) (f at' n : Nat) : List Tgt := [⟨.exit 0, frEI P f at' n, hpX, [(eqX (.var 0) (.var 1), true)]⟩, ⟨.ret, frER P f at' n, hpX, [(eqX (.var 0) (.var 1), false)]⟩]
def sumsE : List Sum := [
  ⟨.bad, [], [], (.lt (.var nmE) (.len (.var 1)), false) :: (.lt (.var nmE) (.len (.var 0)), true) :: pcEI⟩,
  ⟨.ret, [], [], (.eq (.nth (.var 0) (.var nmE)) (.nth (.var 1) (.var nmE)), false) :: (.lt (.var nmE) (.len (.var 1)), true) :: (.lt (.var nmE) (.len (.var 0)), true) :: pcEI⟩,
  ⟨.normal, [(.int .i64 (.wrap .i64 (.add (.var nmE) (.lit 1))), .int .i64 (.var nmE))], [], (.eq (.nth (.var 0) (.var nmE)) (.nth (.var 1) (.var nmE)), true) :: (.lt (.var nmE) (.len (.var 1)), true) :: (.lt (.var nmE) (.len (.var 0)), true) :: pcEI⟩,
  ⟨.exit 0, [(.int .i64 (.var nmE), .int .i64 (.var nmE))], [], (.lt (.var nmE) (.len (.var 0)), false) :: pcEI⟩]
def startE : List (SV × SV) := [(.int .i64 (.lit 0), .int .i64 (.var nmE))]

def set1 {G : Type} (ν : Env G) (n : Nat) (x : Int) : Env G := { ν with i := fun m => if m = n then x else ν.i m }
theorem set1_agree {G : Type} (ν : Env G) (ρ : Nat → Nat) (n : Nat) (x : Int) : Agree n (n + 64) ν (set1 ν n x) ρ ρ :=
  ⟨rfl, fun _ _ => rfl, fun m hm => by
    unfold out at hm
    simp only [Bool.or_eq_true, Nat.ble_eq] at hm
    have h1 : m ≠ n := by omega
    simp [set1, h1], fun _ _ => rfl, fun _ _ => rfl, fun _ _ => rfl, fun _ _ => rfl, fun _ _ => rfl⟩
theorem set1_self {G : Type} (ν : Env G) (n : Nat) (x : Int) : (set1 ν n x).i n = x := by simp [set1]

theorem wrapS (x : Int) (h1 : -9223372036854775808 ≤ x) (h2 : x ≤ 9223372036854775807) : IntKind.i64.wrap x = x := by
  rw [IntKind.wrap_i64]; omega

theorem list_ext {xs ys : List Int} (hl : xs.length = ys.length) (h : ∀ j : Nat, (j : Int) < xs.length → xs.getD j 0 = ys.getD j 0) : xs = ys := by
  refine List.ext_getElem hl fun j h1 h2 => ?_
  have := h j (by omega)
  simpa [List.getD_eq_getElem?_getD, h1, h2] using this

attribute [local irreducible] nmAt
theorem loopE_ok (f at' n : Nat) (h1 : (loopsAt Try.prog f 4).length = 1)
    (hbody : (codeX Try.prog noOrac (2^700) (2^650) f 6000 0 (loopAt Try.prog f 4) (frEI Try.prog f at' n) pcEI hpX).bind (sumsM nmE (2^700) (2^650) (⟨.normal, frEI Try.prog f at' n, hpX, pcEI⟩ :: tgE Try.prog f at' n)) = some sumsE)
    (hst : diffX (fun v => v.av nmE (nmE + 64)) (frE Try.prog f) (frEI Try.prog f at' n) = some startE) (hsl : diffH (fun m => out nmE (nmE + 64) m) (fun b => b.av nmE (nmE + 64)) hpX hpX = some []) :
    OOK Try.prog (noOrac.withLoop f 4 nmE (frE Try.prog f) hpX (mkM nmE (tgE Try.prog f at' n) badE)) inM := by
  have os : ∀ {m : Nat}, m < 1000 → out nmE (nmE + 64) m = true := fun h => out_small h
  have ob : ∀ {m : Nat}, m < 1000 → out (2^700) (2^700 + 2^650) m = true := fun h => out_big h
  have on : out (2^700) (2^700 + 2^650) nmE = true := out_nm (s := 4) (j := 0) (by decide +kernel) (by omega)
  have hbads : ∀ {ν : Env Gh}, (∀ x ∈ badE, x.1.den ν ≠ x.2) → (ν.l 0).length = (ν.l 1).length ∧ 0 ≤ ν.i 0 ∧ 0 ≤ ν.i 2 ∧ (ν.l 0).length ≤ 9223372036854775807 := by
    intro ν h
    simp only [badE, List.mem_cons, List.not_mem_nil, or_false, forall_eq_or_imp, forall_eq, SB.den, ne_eq, beq_eq_false_iff_ne, Decidable.not_not, decide_eq_true_eq] at h
    simp only [SI.den, SL.den] at h
    omega
  have hpcI : ∀ {ν ν1 : Env Gh} {ρ : Nat → Nat}, (∀ x ∈ badE, x.1.den ν ≠ x.2) → Agree nmE (nmE + 64) ν ν1 ρ ρ → 0 ≤ ν1.i nmE → pcDen ν1 pcEI := by
    intro ν ν1 ρ hb ha h0
    obtain ⟨b1, b2, b3, b4⟩ := hbads hb
    simp only [pcEI, pcDen_cons_iff, pcDen_nil_iff, SB.den, decide_eq_false_iff_not, beq_iff_eq]
    simp only [SI.den, SL.den, ha.l 0 (os (by omega)), ha.l 1 (os (by omega)), ha.i 0 (os (by omega)), ha.i 2 (os (by omega))]
    exact ⟨by omega, by omega, by omega, by omega, trivial⟩
  refine loopM_ok pr (noOrac_ok (I := inM)) h1 hbody hst hsl
    (fun ν ν1 => 0 ≤ ν1.i nmE ∧ ν1.i nmE ≤ (ν.l 0).length ∧ ∀ j : Nat, (j : Int) < ν1.i nmE → (ν.l 0).getD j 0 = (ν.l 1).getD j 0) (fun ν ν1 => ((ν.l 0).length - ν1.i nmE).toNat) ?_ ?_ noOrac_ok
  · intro ν ρ hI hb
    obtain ⟨b1, b2, b3, b4⟩ := hbads hb
    have ha := set1_agree ν ρ nmE 0
    refine ⟨set1 ν nmE 0, ha, ⟨by rw [set1_self]; omega, by rw [set1_self]; omega, fun j hj => by rw [set1_self] at hj; omega⟩, hpcI hb ha (by rw [set1_self]; omega), fun y hy => ?_, fun y hy => (by cases hy)⟩
    simp only [startE, List.mem_cons, List.not_mem_nil, or_false] at hy
    subst hy
    simp only [SV.den, SI.den, set1_self]
  · intro s hs ν ρ ν1 ν2 ρ2 hI hb a1 hJ _ a2 hp2
    obtain ⟨b1, b2, b3, b4⟩ := hbads hb
    obtain ⟨j1, j2, j3⟩ := hJ
    have l0 : ν2.l 0 = ν.l 0 := (a2.l 0 (ob (by omega))).trans (a1.l 0 (os (by omega)))
    have l1 : ν2.l 1 = ν.l 1 := (a2.l 1 (ob (by omega))).trans (a1.l 1 (os (by omega)))
    have ek : ν2.i nmE = ν1.i nmE := a2.i nmE on
    have ha3 : ∀ x, Agree nmE (nmE + 64) ν (set1 ν nmE x) ρ ρ := fun x => set1_agree ν ρ nmE x
    have hI3 : ∀ x, (set1 ν nmE x).I = inM := fun x => hI
    simp only [sumsE, List.mem_cons, List.not_mem_nil, or_false] at hs
    rcases hs with rfl | rfl | rfl | rfl
    · simp only [pcDen_cons_iff, SB.den, SI.den, SL.den, l0, l1, ek, decide_eq_true_eq, decide_eq_false_iff_not] at hp2
      omega
    · simp only [pcDen_cons_iff, SB.den, SI.den, SL.den, l0, l1, ek, decide_eq_true_eq, decide_eq_false_iff_not, beq_eq_false_iff_ne] at hp2
      refine ⟨set1 ν nmE 0, ha3 0, fun t ht he => ?_, fun y hy => (by cases hy), fun y hy => (by cases hy)⟩
      simp only [tgE, List.mem_cons, List.not_mem_nil, or_false] at ht
      rcases ht with rfl | rfl
      · cases he
      · refine pcDen_one ?_
        rw [eqX_den (hI3 0)]
        simp only [SL.den, beq_eq_false_iff_ne]
        intro h
        have h : ν.l 0 = ν.l 1 := h
        exact hp2.1 (by rw [h])
    · simp only [pcDen_cons_iff, SB.den, SI.den, SL.den, l0, l1, ek, decide_eq_true_eq, decide_eq_false_iff_not, beq_iff_eq] at hp2
      refine ⟨set1 ν nmE (ν1.i nmE + 1), ha3 _, ⟨by rw [set1_self]; omega, by rw [set1_self]; omega, fun j hj => ?_⟩, hpcI hb (ha3 _) (by rw [set1_self]; omega), by rw [set1_self]; omega, fun y hy => ?_, fun y hy => (by cases hy)⟩
      · rw [set1_self] at hj
        rcases Int.lt_or_le (j : Int) (ν1.i nmE) with h | h
        · exact j3 j h
        · have e : (ν1.i nmE).toNat = j := by omega
          have := hp2.1
          rwa [e] at this
      · simp only [List.mem_cons, List.not_mem_nil, or_false] at hy
        subst hy
        simp only [SV.den, SI.den, ek, set1_self]
        rw [wrapS _ (by omega) (by omega)]
    · simp only [pcDen_cons_iff, SB.den, SI.den, SL.den, l0, l1, ek, decide_eq_true_eq, decide_eq_false_iff_not] at hp2
      refine ⟨set1 ν nmE (ν1.i nmE), ha3 _, fun t ht he => ?_, fun y hy => ?_, fun y hy => (by cases hy)⟩
      · simp only [tgE, List.mem_cons, List.not_mem_nil, or_false] at ht
        rcases ht with rfl | rfl
        · refine pcDen_one ?_
          rw [eqX_den (hI3 _)]
          simp only [SL.den, beq_iff_eq]
          show ν.l 0 = ν.l 1
          exact list_ext b1 (fun j hj => j3 j (by omega))
        · cases he
      · simp only [List.mem_cons, List.not_mem_nil, or_false] at hy
        subst hy
        simp only [SV.den, SI.den, ek, set1_self]

/-! the two functions -/
theorem bodyE33 : (codeX Try.prog noOrac (2^700) (2^650) 33 6000 0 (loopAt Try.prog 33 4) (frEI Try.prog 33 5 11) pcEI hpX).bind (sumsM nmE (2^700) (2^650) (⟨.normal, frEI Try.prog 33 5 11, hpX, pcEI⟩ :: tgE Try.prog 33 5 11)) = some sumsE := by kernel_rfl
theorem bodyE77 : (codeX Try.prog noOrac (2^700) (2^650) 77 6000 0 (loopAt Try.prog 77 4) (frEI Try.prog 77 13 14) pcEI hpX).bind (sumsM nmE (2^700) (2^650) (⟨.normal, frEI Try.prog 77 13 14, hpX, pcEI⟩ :: tgE Try.prog 77 13 14)) = some sumsE := by kernel_rfl
theorem oneE33 : (loopsAt Try.prog 33 4).length = 1 := by kernel_rfl
theorem oneE77 : (loopsAt Try.prog 77 4).length = 1 := by kernel_rfl
theorem stE33 : diffX (fun v => v.av nmE (nmE + 64)) (frE Try.prog 33) (frEI Try.prog 33 5 11) = some startE := by kernel_rfl
theorem stE77 : diffX (fun v => v.av nmE (nmE + 64)) (frE Try.prog 77) (frEI Try.prog 77 13 14) = some startE := by kernel_rfl
theorem slE : diffH (fun m => out nmE (nmE + 64) m) (fun b => b.av nmE (nmE + 64)) hpX hpX = some [] := by kernel_rfl

def orE (P : Program) (f at' n : Nat) : Orac := noOrac.withLoop f 4 nmE (frE P f) hpX (mkM nmE (tgE P f at' n) badE)
def runE : Option (List (Bool × SV × PC)) := some [
  (false, .bool (.lit false), (.eq (.len (.var 0)) (.len (.var 1)), false) :: pcX), (false, .bool (.lit true), (eqX (.var 0) (.var 1), true) :: (.eq (.len (.var 0)) (.len (.var 1)), true) :: pcX), (false, .bool (.lit false), (eqX (.var 0) (.var 1), false) :: (.eq (.len (.var 0)) (.len (.var 1)), true) :: pcX),
  (true, .tup [], (.eq (.len (.var 0)) (.len (.var 1)), false) :: (.eq (.len (.var 0)) (.len (.var 1)), true) :: pcX), (true, .tup [], (.lt (.var 0) (.lit 0), true) :: (.eq (.len (.var 0)) (.len (.var 1)), true) :: pcX), (true, .tup [], (.lt (.var 2) (.lit 0), true) :: (.eq (.len (.var 0)) (.len (.var 1)), true) :: pcX),
  (true, .tup [], (.lt (.lit 9223372036854775807) (.len (.var 0)), true) :: (.eq (.len (.var 0)) (.len (.var 1)), true) :: pcX)]
theorem runE33 : lvOf (runX Try.prog (orE Try.prog 33 5 11) 33 [aX, bX] pcX hpX) = runE := by kernel_rfl
theorem runE77 : lvOf (runX Try.prog (orE Try.prog 77 13 14) 77 [aX, bX] pcX hpX) = runE := by kernel_rfl

def envG (i : Nat → Int) (l : Nat → List Int) : Env Gh := ⟨inM, fun _ => ghL [], i, fun _ => false, fun _ => .bool false, l, fun _ => ⟨0, 0, none⟩, fun _ => rfl⟩
def int4 (a b c d : Int) : Nat → Int | 0 => a | 1 => b | 2 => c | _ => d
def list2 (a b : List Int) : Nat → List Int | 0 => a | _ => b
def nat2 (a b : Nat) : Nat → Nat | 0 => a | _ => b

theorem eqC_of {f : Nat} {O : Orac} (oo : OOK Try.prog O inM) (h : lvOf (runX Try.prog O f [aX, bX] pcX hpX) = runE) : EqC Try.prog f := by
  intro w a b xs ys ⟨g, o, c, ea, hg, hm, hc⟩ ⟨g', o', c', eb, hg', hm', hc'⟩
  subst ea eb
  have hw : HW (baseOf w) (envG (int4 o c o' c') (list2 xs ys)) (nat2 g g') hpX w := by
    refine ((HW.empty _ _ _).addView (n := 1) (by simp) (by rw [baseOf_own]; show ¬ w.heap.size ≤ g'; omega) (by show (0 : Int) ≤ (o' : Int); omega) ?_).addView (n := 0) (by simp) (by rw [baseOf_own]; show ¬ w.heap.size ≤ g; omega) (by show (0 : Int) ≤ (o : Int); omega) ?_
    · intro j x hx
      have := hc' j x hx
      simpa [SI.den, envG, int4, baseOf, nat2] using this
    · intro j x hx
      have := hc j x hx
      simpa [SI.den, envG, int4, baseOf, nat2] using this
  have hpc : pcDen (envG (int4 o c o' c') (list2 xs ys)) pcX := by
    simp [pcX, pcDen_cons_iff, pcDen_nil_iff, SB.den, SI.den, envG, int4]
  have e : (denL (envG (int4 o c o' c') (list2 xs ys)) (nat2 g g') [aX, bX]).toArray = #[.slice (some ⟨g, o, none⟩) xs.length c, .slice (some ⟨g', o', none⟩) ys.length c'] := by
    simp [denL, SV.den, aX, bX, SI.den, SL.den, envG, int4, nat2, list2]
  rw [← e]
  refine lv_calls pr oo (h.trans rfl) w _ _ _ rfl hpc hw ?_
  intro x hx ν' ρ' hag hp
  have l0 : ν'.l 0 = xs := hag.l 0 (out_LO (by omega))
  have l1 : ν'.l 1 = ys := hag.l 1 (out_LO (by omega))
  have hI : ν'.I = inM := hag.I
  have i0 : ν'.i 0 = o := hag.i 0 (out_LO (by omega))
  have i2 : ν'.i 2 = o' := hag.i 2 (out_LO (by omega))
  clear hag
  simp only [List.mem_cons, List.not_mem_nil, or_false] at hx
  rcases hx with rfl | rfl | rfl | rfl | rfl | rfl | rfl
  · simp only [pcDen_cons_iff, SB.den, beq_eq_false_iff_ne] at hp
    simp only [SI.den, SL.den, l0, l1] at hp
    refine ⟨rfl, fun w' hb => ⟨?_, hb⟩⟩
    have : (xs == ys) = false := beq_eq_false_iff_ne.2 (fun e => hp.1 (by rw [e]))
    rw [this]; rfl
  · simp only [pcDen_cons_iff, eqX_den hI] at hp
    simp only [SL.den, l0, l1] at hp
    refine ⟨rfl, fun w' hb => ⟨?_, hb⟩⟩
    rw [hp.1]; rfl
  · simp only [pcDen_cons_iff, eqX_den hI] at hp
    simp only [SL.den, l0, l1] at hp
    refine ⟨rfl, fun w' hb => ⟨?_, hb⟩⟩
    rw [hp.1]; rfl
  · simp only [pcDen_cons_iff] at hp
    exact absurd (hp.1.symm.trans hp.2.1) (by simp)
  · simp only [pcDen_cons_iff, SB.den, decide_eq_true_eq] at hp
    simp only [SI.den, i0] at hp
    omega
  · simp only [pcDen_cons_iff, SB.den, decide_eq_true_eq] at hp
    simp only [SI.den, i2] at hp
    omega
  · simp only [pcDen_cons_iff, SB.den, decide_eq_true_eq] at hp
    simp only [SI.den, SL.den, l0] at hp
    omega

theorem same_calls : EqC Try.prog 33 := eqC_of (loopE_ok _ 5 11 oneE33 bodyE33 stE33 slE) runE33
theorem equal_calls : EqC Try.prog 77 := eqC_of (loopE_ok _ 13 14 oneE77 bodyE77 stE77 slE) runE77

/-! ### an access -/
def accX : SV := .agg [.int .i64 (.var 0), .int .i64 (.var 1), .int .u64 (.var 2), .int .u64 (.var 3)]
def hpD : Heap := [(0, .cells [.sl 1 (.lit 0) (.len (.var 0)) (.var 4)] 124 true), (1, .row .u64 (.var 0) (.var 5) 51)]
def hpR : Heap := [(1, .row .u64 (.var 0) (.var 5) 51)]
def runD : Option (List (Bool × SV × PC × SL)) := some [(false, SV.tup [SV.int IntKind.u64 (SI.lit 0), SV.bool (SB.lit false), SV.int IntKind.i64 (SI.lit 2)], [(SB.lt (SI.var 0) (SI.lit 0), true)], SL.var 0), (false, SV.tup [SV.int IntKind.u64 (SI.lit 0), SV.bool (SB.lit false), SV.int IntKind.i64 (SI.lit 2)], [(SB.lt (SI.var 0) (SI.lit 8), false), (SB.lt (SI.var 0) (SI.lit 0), false)], SL.var 0), (false, SV.tup [SV.int IntKind.u64 (SI.lit 0), SV.bool (SB.lit false), SV.int IntKind.i64 (SI.lit 2)], [(SB.eq (SI.var 0) (SI.lit 0), true), (SB.lt (SI.var 0) (SI.lit 8), true), (SB.lt (SI.var 0) (SI.lit 0), false)], SL.var 0), (false, SV.tup [SV.int IntKind.u64 (SI.lit 0), SV.bool (SB.lit false), SV.int IntKind.i64 (SI.lit 3)], [(SB.lt (SI.var 1) (SI.lit 0), true), (SB.eq (SI.var 0) (SI.lit 1), true), (SB.eq (SI.var 0) (SI.lit 0), false), (SB.lt (SI.var 0) (SI.lit 8), true), (SB.lt (SI.var 0) (SI.lit 0), false)], SL.var 0), (false, SV.tup [SV.int IntKind.u64 (SI.lit 0), SV.bool (SB.lit false), SV.int IntKind.i64 (SI.lit 3)], [(SB.lt (SI.var 1) (SI.len (SL.var 0)), false), (SB.lt (SI.var 1) (SI.lit 0), false), (SB.eq (SI.var 0) (SI.lit 1), true), (SB.eq (SI.var 0) (SI.lit 0), false), (SB.lt (SI.var 0) (SI.lit 8), true), (SB.lt (SI.var 0) (SI.lit 0), false)], SL.var 0), (false, SV.tup [SV.int IntKind.u64 (SI.nth (SL.var 0) (SI.var 1)), SV.bool (SB.lit true), SV.int IntKind.i64 (SI.lit 0)], [(SB.lt (SI.var 1) (SI.len (SL.var 0)), true), (SB.lt (SI.var 1) (SI.lit 0), false), (SB.eq (SI.var 0) (SI.lit 1), true), (SB.eq (SI.var 0) (SI.lit 0), false), (SB.lt (SI.var 0) (SI.lit 8), true), (SB.lt (SI.var 0) (SI.lit 0), false)], (SL.var 0).set (SI.var 1) (SI.nth (SL.var 0) (SI.var 1))), (false, SV.tup [SV.int IntKind.u64 (SI.lit 0), SV.bool (SB.lit false), SV.int IntKind.i64 (SI.lit 3)], [(SB.lt (SI.var 1) (SI.lit 0), true), (SB.eq (SI.var 0) (SI.lit 2), true), (SB.eq (SI.var 0) (SI.lit 1), false), (SB.eq (SI.var 0) (SI.lit 0), false), (SB.lt (SI.var 0) (SI.lit 8), true), (SB.lt (SI.var 0) (SI.lit 0), false)], SL.var 0), (false, SV.tup [SV.int IntKind.u64 (SI.lit 0), SV.bool (SB.lit false), SV.int IntKind.i64 (SI.lit 3)], [(SB.lt (SI.var 1) (SI.len (SL.var 0)), false), (SB.lt (SI.var 1) (SI.lit 0), false), (SB.eq (SI.var 0) (SI.lit 2), true), (SB.eq (SI.var 0) (SI.lit 1), false), (SB.eq (SI.var 0) (SI.lit 0), false), (SB.lt (SI.var 0) (SI.lit 8), true), (SB.lt (SI.var 0) (SI.lit 0), false)], SL.var 0), (false, SV.tup [SV.int IntKind.u64 (SI.nth (SL.var 0) (SI.var 1)), SV.bool (SB.lit true), SV.int IntKind.i64 (SI.lit 0)], [(SB.lt (SI.var 1) (SI.len (SL.var 0)), true), (SB.lt (SI.var 1) (SI.lit 0), false), (SB.eq (SI.var 0) (SI.lit 2), true), (SB.eq (SI.var 0) (SI.lit 1), false), (SB.eq (SI.var 0) (SI.lit 0), false), (SB.lt (SI.var 0) (SI.lit 8), true), (SB.lt (SI.var 0) (SI.lit 0), false)], (SL.var 0).set (SI.var 1) (SI.var 2)), (false, SV.tup [SV.int IntKind.u64 (SI.lit 0), SV.bool (SB.lit false), SV.int IntKind.i64 (SI.lit 3)], [(SB.lt (SI.var 1) (SI.lit 0), true), (SB.eq (SI.var 0) (SI.lit 3), true), (SB.eq (SI.var 0) (SI.lit 2), false), (SB.eq (SI.var 0) (SI.lit 1), false), (SB.eq (SI.var 0) (SI.lit 0), false), (SB.lt (SI.var 0) (SI.lit 8), true), (SB.lt (SI.var 0) (SI.lit 0), false)], SL.var 0), (false, SV.tup [SV.int IntKind.u64 (SI.lit 0), SV.bool (SB.lit false), SV.int IntKind.i64 (SI.lit 3)], [(SB.lt (SI.var 1) (SI.len (SL.var 0)), false), (SB.lt (SI.var 1) (SI.lit 0), false), (SB.eq (SI.var 0) (SI.lit 3), true), (SB.eq (SI.var 0) (SI.lit 2), false), (SB.eq (SI.var 0) (SI.lit 1), false), (SB.eq (SI.var 0) (SI.lit 0), false), (SB.lt (SI.var 0) (SI.lit 8), true), (SB.lt (SI.var 0) (SI.lit 0), false)], SL.var 0), (false, SV.tup [SV.int IntKind.u64 (SI.nth (SL.var 0) (SI.var 1)), SV.bool (SB.lit false), SV.int IntKind.i64 (SI.lit 0)], [(SB.eq (SI.nth (SL.var 0) (SI.var 1)) (SI.var 2), false), (SB.lt (SI.var 1) (SI.len (SL.var 0)), true), (SB.lt (SI.var 1) (SI.lit 0), false), (SB.eq (SI.var 0) (SI.lit 3), true), (SB.eq (SI.var 0) (SI.lit 2), false), (SB.eq (SI.var 0) (SI.lit 1), false), (SB.eq (SI.var 0) (SI.lit 0), false), (SB.lt (SI.var 0) (SI.lit 8), true), (SB.lt (SI.var 0) (SI.lit 0), false)], (SL.var 0).set (SI.var 1) (SI.nth (SL.var 0) (SI.var 1))), (false, SV.tup [SV.int IntKind.u64 (SI.nth (SL.var 0) (SI.var 1)), SV.bool (SB.lit true), SV.int IntKind.i64 (SI.lit 0)], [(SB.eq (SI.nth (SL.var 0) (SI.var 1)) (SI.var 2), true), (SB.lt (SI.var 1) (SI.len (SL.var 0)), true), (SB.lt (SI.var 1) (SI.lit 0), false), (SB.eq (SI.var 0) (SI.lit 3), true), (SB.eq (SI.var 0) (SI.lit 2), false), (SB.eq (SI.var 0) (SI.lit 1), false), (SB.eq (SI.var 0) (SI.lit 0), false), (SB.lt (SI.var 0) (SI.lit 8), true), (SB.lt (SI.var 0) (SI.lit 0), false)], (SL.var 0).set (SI.var 1) (SI.var 3)), (false, SV.tup [SV.int IntKind.u64 (SI.lit 0), SV.bool (SB.lit false), SV.int IntKind.i64 (SI.lit 3)], [(SB.lt (SI.var 1) (SI.lit 0), true), (SB.eq (SI.var 0) (SI.lit 4), true), (SB.eq (SI.var 0) (SI.lit 3), false), (SB.eq (SI.var 0) (SI.lit 2), false), (SB.eq (SI.var 0) (SI.lit 1), false), (SB.eq (SI.var 0) (SI.lit 0), false), (SB.lt (SI.var 0) (SI.lit 8), true), (SB.lt (SI.var 0) (SI.lit 0), false)], SL.var 0), (false, SV.tup [SV.int IntKind.u64 (SI.lit 0), SV.bool (SB.lit false), SV.int IntKind.i64 (SI.lit 3)], [(SB.lt (SI.var 1) (SI.len (SL.var 0)), false), (SB.lt (SI.var 1) (SI.lit 0), false), (SB.eq (SI.var 0) (SI.lit 4), true), (SB.eq (SI.var 0) (SI.lit 3), false), (SB.eq (SI.var 0) (SI.lit 2), false), (SB.eq (SI.var 0) (SI.lit 1), false), (SB.eq (SI.var 0) (SI.lit 0), false), (SB.lt (SI.var 0) (SI.lit 8), true), (SB.lt (SI.var 0) (SI.lit 0), false)], SL.var 0), (false, SV.tup [SV.int IntKind.u64 (SI.nth (SL.var 0) (SI.var 1)), SV.bool (SB.lit true), SV.int IntKind.i64 (SI.lit 0)], [(SB.lt (SI.var 1) (SI.len (SL.var 0)), true), (SB.lt (SI.var 1) (SI.lit 0), false), (SB.eq (SI.var 0) (SI.lit 4), true), (SB.eq (SI.var 0) (SI.lit 3), false), (SB.eq (SI.var 0) (SI.lit 2), false), (SB.eq (SI.var 0) (SI.lit 1), false), (SB.eq (SI.var 0) (SI.lit 0), false), (SB.lt (SI.var 0) (SI.lit 8), true), (SB.lt (SI.var 0) (SI.lit 0), false)], (SL.var 0).set (SI.var 1) (SI.wrap IntKind.u64 ((SI.nth (SL.var 0) (SI.var 1)).add (SI.var 2)))), (false, SV.tup [SV.int IntKind.u64 (SI.lit 0), SV.bool (SB.lit false), SV.int IntKind.i64 (SI.lit 3)], [(SB.lt (SI.var 1) (SI.lit 0), true), (SB.eq (SI.var 0) (SI.lit 5), true), (SB.eq (SI.var 0) (SI.lit 4), false), (SB.eq (SI.var 0) (SI.lit 3), false), (SB.eq (SI.var 0) (SI.lit 2), false), (SB.eq (SI.var 0) (SI.lit 1), false), (SB.eq (SI.var 0) (SI.lit 0), false), (SB.lt (SI.var 0) (SI.lit 8), true), (SB.lt (SI.var 0) (SI.lit 0), false)], SL.var 0), (false, SV.tup [SV.int IntKind.u64 (SI.lit 0), SV.bool (SB.lit false), SV.int IntKind.i64 (SI.lit 3)], [(SB.lt (SI.var 1) (SI.len (SL.var 0)), false), (SB.lt (SI.var 1) (SI.lit 0), false), (SB.eq (SI.var 0) (SI.lit 5), true), (SB.eq (SI.var 0) (SI.lit 4), false), (SB.eq (SI.var 0) (SI.lit 3), false), (SB.eq (SI.var 0) (SI.lit 2), false), (SB.eq (SI.var 0) (SI.lit 1), false), (SB.eq (SI.var 0) (SI.lit 0), false), (SB.lt (SI.var 0) (SI.lit 8), true), (SB.lt (SI.var 0) (SI.lit 0), false)], SL.var 0), (false, SV.tup [SV.int IntKind.u64 (SI.nth (SL.var 0) (SI.var 1)), SV.bool (SB.lit true), SV.int IntKind.i64 (SI.lit 0)], [(SB.lt (SI.var 1) (SI.len (SL.var 0)), true), (SB.lt (SI.var 1) (SI.lit 0), false), (SB.eq (SI.var 0) (SI.lit 5), true), (SB.eq (SI.var 0) (SI.lit 4), false), (SB.eq (SI.var 0) (SI.lit 3), false), (SB.eq (SI.var 0) (SI.lit 2), false), (SB.eq (SI.var 0) (SI.lit 1), false), (SB.eq (SI.var 0) (SI.lit 0), false), (SB.lt (SI.var 0) (SI.lit 8), true), (SB.lt (SI.var 0) (SI.lit 0), false)], (SL.var 0).set (SI.var 1) (SI.bits 1 IntKind.u64 (SI.nth (SL.var 0) (SI.var 1)) (SI.var 2))), (false, SV.tup [SV.int IntKind.u64 (SI.lit 0), SV.bool (SB.lit false), SV.int IntKind.i64 (SI.lit 3)], [(SB.lt (SI.var 1) (SI.lit 0), true), (SB.eq (SI.var 0) (SI.lit 6), true), (SB.eq (SI.var 0) (SI.lit 5), false), (SB.eq (SI.var 0) (SI.lit 4), false), (SB.eq (SI.var 0) (SI.lit 3), false), (SB.eq (SI.var 0) (SI.lit 2), false), (SB.eq (SI.var 0) (SI.lit 1), false), (SB.eq (SI.var 0) (SI.lit 0), false), (SB.lt (SI.var 0) (SI.lit 8), true), (SB.lt (SI.var 0) (SI.lit 0), false)], SL.var 0), (false, SV.tup [SV.int IntKind.u64 (SI.lit 0), SV.bool (SB.lit false), SV.int IntKind.i64 (SI.lit 3)], [(SB.lt (SI.var 1) (SI.len (SL.var 0)), false), (SB.lt (SI.var 1) (SI.lit 0), false), (SB.eq (SI.var 0) (SI.lit 6), true), (SB.eq (SI.var 0) (SI.lit 5), false), (SB.eq (SI.var 0) (SI.lit 4), false), (SB.eq (SI.var 0) (SI.lit 3), false), (SB.eq (SI.var 0) (SI.lit 2), false), (SB.eq (SI.var 0) (SI.lit 1), false), (SB.eq (SI.var 0) (SI.lit 0), false), (SB.lt (SI.var 0) (SI.lit 8), true), (SB.lt (SI.var 0) (SI.lit 0), false)], SL.var 0), (false, SV.tup [SV.int IntKind.u64 (SI.nth (SL.var 0) (SI.var 1)), SV.bool (SB.lit true), SV.int IntKind.i64 (SI.lit 0)], [(SB.lt (SI.var 1) (SI.len (SL.var 0)), true), (SB.lt (SI.var 1) (SI.lit 0), false), (SB.eq (SI.var 0) (SI.lit 6), true), (SB.eq (SI.var 0) (SI.lit 5), false), (SB.eq (SI.var 0) (SI.lit 4), false), (SB.eq (SI.var 0) (SI.lit 3), false), (SB.eq (SI.var 0) (SI.lit 2), false), (SB.eq (SI.var 0) (SI.lit 1), false), (SB.eq (SI.var 0) (SI.lit 0), false), (SB.lt (SI.var 0) (SI.lit 8), true), (SB.lt (SI.var 0) (SI.lit 0), false)], (SL.var 0).set (SI.var 1) (SI.bits 0 IntKind.u64 (SI.nth (SL.var 0) (SI.var 1)) (SI.var 2))), (false, SV.tup [SV.int IntKind.u64 (SI.lit 0), SV.bool (SB.lit false), SV.int IntKind.i64 (SI.lit 3)], [(SB.lt (SI.var 1) (SI.lit 0), true), (SB.eq (SI.var 0) (SI.lit 7), true), (SB.eq (SI.var 0) (SI.lit 6), false), (SB.eq (SI.var 0) (SI.lit 5), false), (SB.eq (SI.var 0) (SI.lit 4), false), (SB.eq (SI.var 0) (SI.lit 3), false), (SB.eq (SI.var 0) (SI.lit 2), false), (SB.eq (SI.var 0) (SI.lit 1), false), (SB.eq (SI.var 0) (SI.lit 0), false), (SB.lt (SI.var 0) (SI.lit 8), true), (SB.lt (SI.var 0) (SI.lit 0), false)], SL.var 0), (false, SV.tup [SV.int IntKind.u64 (SI.lit 0), SV.bool (SB.lit false), SV.int IntKind.i64 (SI.lit 3)], [(SB.lt (SI.var 1) (SI.len (SL.var 0)), false), (SB.lt (SI.var 1) (SI.lit 0), false), (SB.eq (SI.var 0) (SI.lit 7), true), (SB.eq (SI.var 0) (SI.lit 6), false), (SB.eq (SI.var 0) (SI.lit 5), false), (SB.eq (SI.var 0) (SI.lit 4), false), (SB.eq (SI.var 0) (SI.lit 3), false), (SB.eq (SI.var 0) (SI.lit 2), false), (SB.eq (SI.var 0) (SI.lit 1), false), (SB.eq (SI.var 0) (SI.lit 0), false), (SB.lt (SI.var 0) (SI.lit 8), true), (SB.lt (SI.var 0) (SI.lit 0), false)], SL.var 0), (false, SV.tup [SV.int IntKind.u64 (SI.nth (SL.var 0) (SI.var 1)), SV.bool (SB.eq (SI.nth (SL.var 0) (SI.var 1)) (SI.var 2)).not, SV.int IntKind.i64 (SI.lit 0)], [(SB.lt (SI.var 1) (SI.len (SL.var 0)), true), (SB.lt (SI.var 1) (SI.lit 0), false), (SB.eq (SI.var 0) (SI.lit 7), true), (SB.eq (SI.var 0) (SI.lit 6), false), (SB.eq (SI.var 0) (SI.lit 5), false), (SB.eq (SI.var 0) (SI.lit 4), false), (SB.eq (SI.var 0) (SI.lit 3), false), (SB.eq (SI.var 0) (SI.lit 2), false), (SB.eq (SI.var 0) (SI.lit 1), false), (SB.eq (SI.var 0) (SI.lit 0), false), (SB.lt (SI.var 0) (SI.lit 8), true), (SB.lt (SI.var 0) (SI.lit 0), false)], (SL.var 0).set (SI.var 1) (SI.nth (SL.var 0) (SI.var 1))), (true, SV.tup [], [(SB.eq (SI.var 0) (SI.lit 7), false), (SB.eq (SI.var 0) (SI.lit 6), false), (SB.eq (SI.var 0) (SI.lit 5), false), (SB.eq (SI.var 0) (SI.lit 4), false), (SB.eq (SI.var 0) (SI.lit 3), false), (SB.eq (SI.var 0) (SI.lit 2), false), (SB.eq (SI.var 0) (SI.lit 1), false), (SB.eq (SI.var 0) (SI.lit 0), false), (SB.lt (SI.var 0) (SI.lit 8), true), (SB.lt (SI.var 0) (SI.lit 0), false)], SL.nil)]
def runR : Option (List (Bool × SV × PC × SL)) := some [(false, SV.tup [SV.int IntKind.u64 (SI.lit 0), SV.bool (SB.lit false), SV.int IntKind.i64 (SI.lit 2)], [(SB.lt (SI.var 0) (SI.lit 1), true)], SL.var 0), (false, SV.tup [SV.int IntKind.u64 (SI.lit 0), SV.bool (SB.lit false), SV.int IntKind.i64 (SI.lit 2)], [(SB.lt (SI.lit 7) (SI.var 0), true), (SB.lt (SI.var 0) (SI.lit 1), false)], SL.var 0), (false, SV.tup [SV.int IntKind.u64 (SI.lit 0), SV.bool (SB.lit false), SV.int IntKind.i64 (SI.lit 3)], [(SB.lt (SI.var 1) (SI.lit 0), true), (SB.lt (SI.lit 7) (SI.var 0), false), (SB.lt (SI.var 0) (SI.lit 1), false)], SL.var 0), (false, SV.tup [SV.int IntKind.u64 (SI.lit 0), SV.bool (SB.lit false), SV.int IntKind.i64 (SI.lit 3)], [(SB.lt (SI.var 1) (SI.len (SL.var 0)), false), (SB.lt (SI.var 1) (SI.lit 0), false), (SB.lt (SI.lit 7) (SI.var 0), false), (SB.lt (SI.var 0) (SI.lit 1), false)], SL.var 0), (false, SV.tup [SV.int IntKind.u64 (SI.nth (SL.var 0) (SI.var 1)), SV.bool (SB.lit true), SV.int IntKind.i64 (SI.lit 0)], [(SB.eq (SI.var 0) (SI.lit 2), true), (SB.lt (SI.var 1) (SI.len (SL.var 0)), true), (SB.lt (SI.var 1) (SI.lit 0), false), (SB.lt (SI.lit 7) (SI.var 0), false), (SB.lt (SI.var 0) (SI.lit 1), false)], (SL.var 0).set (SI.var 1) (SI.var 2)), (false, SV.tup [SV.int IntKind.u64 (SI.nth (SL.var 0) (SI.var 1)), SV.bool (SB.eq (SI.nth (SL.var 0) (SI.var 1)) (SI.var 2)), SV.int IntKind.i64 (SI.lit 0)], [(SB.eq (SI.nth (SL.var 0) (SI.var 1)) (SI.var 2), true), (SB.eq (SI.var 0) (SI.lit 3), true), (SB.eq (SI.var 0) (SI.lit 2), false), (SB.lt (SI.var 1) (SI.len (SL.var 0)), true), (SB.lt (SI.var 1) (SI.lit 0), false), (SB.lt (SI.lit 7) (SI.var 0), false), (SB.lt (SI.var 0) (SI.lit 1), false)], (SL.var 0).set (SI.var 1) (SI.var 3)), (false, SV.tup [SV.int IntKind.u64 (SI.nth (SL.var 0) (SI.var 1)), SV.bool (SB.eq (SI.nth (SL.var 0) (SI.var 1)) (SI.var 2)), SV.int IntKind.i64 (SI.lit 0)], [(SB.eq (SI.nth (SL.var 0) (SI.var 1)) (SI.var 2), false), (SB.eq (SI.var 0) (SI.lit 3), true), (SB.eq (SI.var 0) (SI.lit 2), false), (SB.lt (SI.var 1) (SI.len (SL.var 0)), true), (SB.lt (SI.var 1) (SI.lit 0), false), (SB.lt (SI.lit 7) (SI.var 0), false), (SB.lt (SI.var 0) (SI.lit 1), false)], SL.var 0), (false, SV.tup [SV.int IntKind.u64 (SI.nth (SL.var 0) (SI.var 1)), SV.bool (SB.lit true), SV.int IntKind.i64 (SI.lit 0)], [(SB.eq (SI.var 0) (SI.lit 4), true), (SB.eq (SI.var 0) (SI.lit 3), false), (SB.eq (SI.var 0) (SI.lit 2), false), (SB.lt (SI.var 1) (SI.len (SL.var 0)), true), (SB.lt (SI.var 1) (SI.lit 0), false), (SB.lt (SI.lit 7) (SI.var 0), false), (SB.lt (SI.var 0) (SI.lit 1), false)], (SL.var 0).set (SI.var 1) (SI.wrap IntKind.u64 ((SI.nth (SL.var 0) (SI.var 1)).add (SI.var 2)))), (false, SV.tup [SV.int IntKind.u64 (SI.nth (SL.var 0) (SI.var 1)), SV.bool (SB.lit true), SV.int IntKind.i64 (SI.lit 0)], [(SB.eq (SI.var 0) (SI.lit 5), true), (SB.eq (SI.var 0) (SI.lit 4), false), (SB.eq (SI.var 0) (SI.lit 3), false), (SB.eq (SI.var 0) (SI.lit 2), false), (SB.lt (SI.var 1) (SI.len (SL.var 0)), true), (SB.lt (SI.var 1) (SI.lit 0), false), (SB.lt (SI.lit 7) (SI.var 0), false), (SB.lt (SI.var 0) (SI.lit 1), false)], (SL.var 0).set (SI.var 1) (SI.bits 1 IntKind.u64 (SI.nth (SL.var 0) (SI.var 1)) (SI.var 2))), (false, SV.tup [SV.int IntKind.u64 (SI.nth (SL.var 0) (SI.var 1)), SV.bool (SB.lit true), SV.int IntKind.i64 (SI.lit 0)], [(SB.eq (SI.var 0) (SI.lit 6), true), (SB.eq (SI.var 0) (SI.lit 5), false), (SB.eq (SI.var 0) (SI.lit 4), false), (SB.eq (SI.var 0) (SI.lit 3), false), (SB.eq (SI.var 0) (SI.lit 2), false), (SB.lt (SI.var 1) (SI.len (SL.var 0)), true), (SB.lt (SI.var 1) (SI.lit 0), false), (SB.lt (SI.lit 7) (SI.var 0), false), (SB.lt (SI.var 0) (SI.lit 1), false)], (SL.var 0).set (SI.var 1) (SI.bits 0 IntKind.u64 (SI.nth (SL.var 0) (SI.var 1)) (SI.var 2))), (false, SV.tup [SV.int IntKind.u64 (SI.nth (SL.var 0) (SI.var 1)), SV.bool (SB.eq (SI.nth (SL.var 0) (SI.var 1)) (SI.var 2)).not, SV.int IntKind.i64 (SI.lit 0)], [(SB.eq (SI.var 0) (SI.lit 7), true), (SB.eq (SI.var 0) (SI.lit 6), false), (SB.eq (SI.var 0) (SI.lit 5), false), (SB.eq (SI.var 0) (SI.lit 4), false), (SB.eq (SI.var 0) (SI.lit 3), false), (SB.eq (SI.var 0) (SI.lit 2), false), (SB.lt (SI.var 1) (SI.len (SL.var 0)), true), (SB.lt (SI.var 1) (SI.lit 0), false), (SB.lt (SI.lit 7) (SI.var 0), false), (SB.lt (SI.var 0) (SI.lit 1), false)], SL.var 0), (false, SV.tup [SV.int IntKind.u64 (SI.nth (SL.var 0) (SI.var 1)), SV.bool (SB.lit true), SV.int IntKind.i64 (SI.lit 0)], [(SB.eq (SI.var 0) (SI.lit 7), false), (SB.eq (SI.var 0) (SI.lit 6), false), (SB.eq (SI.var 0) (SI.lit 5), false), (SB.eq (SI.var 0) (SI.lit 4), false), (SB.eq (SI.var 0) (SI.lit 3), false), (SB.eq (SI.var 0) (SI.lit 2), false), (SB.lt (SI.var 1) (SI.len (SL.var 0)), true), (SB.lt (SI.var 1) (SI.lit 0), false), (SB.lt (SI.lit 7) (SI.var 0), false), (SB.lt (SI.var 0) (SI.lit 1), false)], SL.var 0)]
theorem run_do : rwOf (some (0, [.sl 1 (.lit 0) (.len (.var 0)) (.var 4)], 124)) 1 (.var 5) 51 (runX Try.prog noOrac 31 [.ptr 0 (.lit 0), accX] [] hpD) = runD := by kernel_rfl
theorem run_ref : rwOf none 1 (.var 5) 51 (runX Try.prog noOrac 32 [.sl 1 (.lit 0) (.len (.var 0)) (.var 4), accX] [] hpR) = runR := by kernel_rfl

def int6 (a b c d e f : Int) : Nat → Int | 0 => a | 1 => b | 2 => c | 3 => d | 4 => e | _ => f

theorem doG_bad {k c a b : Int} {l : List Int} (h : k < 1 ∨ 7 < k) : doG k c a b l = ⟨0, 2, false, l, []⟩ := by unfold doG; rw [if_pos h]
theorem doG_place {k c a b : Int} {l : List Int} (h : ¬ (k < 1 ∨ 7 < k)) (h2 : c < 0 ∨ (l.length : Int) ≤ c) : doG k c a b l = ⟨0, 3, false, l, []⟩ := by unfold doG; rw [if_neg h, if_pos h2]
theorem getD_set_self (l : List Int) (n : Nat) : l.set n (l.getD n 0) = l := by
  refine List.ext_getElem (by simp) fun j h1 h2 => ?_
  rw [List.getElem_set]
  split
  · rename_i h; subst h; simp [List.getD_eq_getElem?_getD, h2]
  · rfl

/-- A leaf of an access, against the ghost. -/
theorem rows_leaf {k c a b cap : Int} {xs : List Int} {ν' : Env Gh} (hI : ν'.I = inM) (e0 : ν'.i 0 = k) (e1 : ν'.i 1 = c) (e2 : ν'.i 2 = a) (e3 : ν'.i 3 = b) (l0 : ν'.l 0 = xs) {v : SV} {s : SL} {u cc : SI} {o : SB} (hv : v = .tup [.int .u64 u, .bool o, .int .i64 cc])
    (h : u.den ν' = (doG k c a b xs).u ∧ o.den ν' = (doG k c a b xs).o ∧ cc.den ν' = (doG k c a b xs).c ∧ s.den ν' = (doG k c a b xs).l) (ρ' : Nat → Nat) :
    v.den ν' ρ' = .tuple #[.int .u64 (doG k c a b xs).u, .bool (doG k c a b xs).o, .int .i64 (doG k c a b xs).c] ∧ s.den ν' = (doG k c a b xs).l := by
  subst hv
  obtain ⟨h1, h2, h3, h4⟩ := h
  simp [SV.den, denL, h1, h2, h3, h4]

section
variable {c a b : Int} {l : List Int} (h1 : 0 ≤ c) (h2 : c < l.length)
include h1 h2
theorem doG_1 : doG 1 c a b l = ⟨l.getD c.toNat 0, 0, true, l, []⟩ := by unfold doG; rw [if_neg (by omega), if_neg (by omega)]; rfl
theorem doG_2 : doG 2 c a b l = ⟨l.getD c.toNat 0, 0, true, l.set c.toNat a, []⟩ := by unfold doG; rw [if_neg (by omega), if_neg (by omega)]; rfl
theorem doG_3y (h : l.getD c.toNat 0 = a) : doG 3 c a b l = ⟨l.getD c.toNat 0, 0, true, l.set c.toNat b, []⟩ := by
  unfold doG
  rw [if_neg (by omega), if_neg (by omega)]
  show (if l.getD c.toNat 0 = a then _ else _) = _
  rw [if_pos h]
theorem doG_3n (h : l.getD c.toNat 0 ≠ a) : doG 3 c a b l = ⟨l.getD c.toNat 0, 0, false, l, []⟩ := by
  unfold doG
  rw [if_neg (by omega), if_neg (by omega)]
  show (if l.getD c.toNat 0 = a then _ else _) = _
  rw [if_neg h]
theorem doG_4 : doG 4 c a b l = ⟨l.getD c.toNat 0, 0, true, l.set c.toNat (IntKind.u64.wrap (l.getD c.toNat 0 + a)), []⟩ := by unfold doG; rw [if_neg (by omega), if_neg (by omega)]; rfl
theorem doG_5 : doG 5 c a b l = ⟨l.getD c.toNat 0, 0, true, l.set c.toNat (bitsDen 1 .u64 (l.getD c.toNat 0) a), []⟩ := by unfold doG; rw [if_neg (by omega), if_neg (by omega)]; rfl
theorem doG_6 : doG 6 c a b l = ⟨l.getD c.toNat 0, 0, true, l.set c.toNat (bitsDen 0 .u64 (l.getD c.toNat 0) a), []⟩ := by unfold doG; rw [if_neg (by omega), if_neg (by omega)]; rfl
theorem doG_7 : doG 7 c a b l = ⟨l.getD c.toNat 0, 0, decide (l.getD c.toNat 0 ≠ a), l, []⟩ := by unfold doG; rw [if_neg (by omega), if_neg (by omega)]; rfl
end

theorem do_calls : DoC Try.prog 31 124 51 := by
  intro w p q cap xs rest k c a b hpq h1 h2 hm
  have hpl : p < w.heap.size := (Array.getElem?_eq_some_iff.1 h1).1
  have hql : q < w.heap.size := (Array.getElem?_eq_some_iff.1 h2).1
  have hw : HW (base2 w p q) (envG (int6 k c a b cap (xs.length + rest.length : Nat)) (fun _ => xs)) (nat2 p q) hpD w := by
    refine ⟨rfl, rfl, rfl, Nat.le_refl _, fun _ _ => rfl, by decide, fun n j => j = nat2 p q n, fun n bk hn => ?_, fun n bk j hn hj => ?_, fun n bk m bk' j hn hn' hj hj' => ?_⟩
    · simp only [hpD, List.mem_cons, List.not_mem_nil, or_false, Prod.mk.injEq] at hn
      rcases hn with ⟨rfl, rfl⟩ | ⟨rfl, rfl⟩
      · refine ⟨?_, fun j => Iff.rfl⟩
        show w.heap[p]? = _
        rw [h1]
        simp [denL, SV.den, SI.den, SL.den, envG, int6, nat2]
      · refine ⟨⟨rest, h2, rfl, ?_⟩, fun j => Iff.rfl⟩
        show ((xs.length + rest.length : Nat) : Int) ≤ _
        omega
    · simp only [hpD, List.mem_cons, List.not_mem_nil, or_false, Prod.mk.injEq] at hn
      subst hj
      rcases hn with ⟨rfl, _⟩ | ⟨rfl, _⟩
      · exact .inr (.inl rfl)
      · exact .inr (.inr rfl)
    · simp only [hpD, List.mem_cons, List.not_mem_nil, or_false, Prod.mk.injEq] at hn hn'
      subst hj
      rcases hn with ⟨rfl, _⟩ | ⟨rfl, _⟩ <;> rcases hn' with ⟨rfl, _⟩ | ⟨rfl, _⟩
      · rfl
      · exact absurd hj' hpq
      · exact absurd hj'.symm hpq
      · rfl
  have e : (denL (envG (int6 k c a b cap (xs.length + rest.length : Nat)) (fun _ => xs)) (nat2 p q) [.ptr 0 (.lit 0), accX]).toArray = #[.pointer (some ⟨p, 0, none⟩), .agg #[.int .i64 k, .int .i64 c, .int .u64 a, .int .u64 b]] := by
    simp [denL, SV.den, SI.den, accX, envG, int6, nat2]
  rw [← e]
  refine rw_calls pr (noOrac_ok (I := inM)) (run_do.trans rfl) w p q _ _ _ rfl (pcDen_nil _) hw (fun ρ' hr => hr 1 (out_LO (by omega))) ?_
  intro x hx ν' ρ' hag hp
  have r0 : ρ' 0 = p := hag.r 0 (out_LO (by omega))
  have r1 : ρ' 1 = q := hag.r 1 (out_LO (by omega))
  have i4 : ν'.i 4 = cap := hag.i 4 (out_LO (by omega))
  have l0 : ν'.l 0 = xs := hag.l 0 (out_LO (by omega))
  have hI : ν'.I = inM := hag.I
  have e0 : ν'.i 0 = k := hag.i 0 (out_LO (by omega))
  have e1 : ν'.i 1 = c := hag.i 1 (out_LO (by omega))
  have e2 : ν'.i 2 = a := hag.i 2 (out_LO (by omega))
  have e3 : ν'.i 3 = b := hag.i 3 (out_LO (by omega))
  have i5 : ν'.i 5 = (xs.length + rest.length : Nat) := hag.i 5 (out_LO (by omega))
  clear hag
  simp only [List.mem_cons, List.not_mem_nil, or_false] at hx
  rcases hx with rfl | rfl | rfl | rfl | rfl | rfl | rfl | rfl | rfl | rfl | rfl | rfl | rfl | rfl | rfl | rfl | rfl | rfl | rfl | rfl | rfl | rfl | rfl | rfl | rfl | rfl
  all_goals
    simp only [pcDen_cons_iff, pcDen_nil_iff, SB.den, beq_iff_eq, beq_eq_false_iff_ne, decide_eq_true_eq, decide_eq_false_iff_not] at hp
    simp only [SI.den, SL.den, e0, e1, e2, e3, l0] at hp
    refine ⟨(by first | rfl | (exfalso; omega)), fun w' rest' t1 t2 t3 t4 t5 tk t6 t7 => ?_⟩
    simp only [SI.den, i5] at t7
    have fin : ∀ {v : Value} {xs' : List Int} {g : Gh}, v = .tuple #[.int .u64 g.u, .bool g.o, .int .i64 g.c] → xs' = g.l → g = doG k c a b xs → w'.heap[q]? = some (rowObj xs' rest' 51) → ((xs.length : Int) + rest.length = (xs'.length + rest'.length : Nat)) →
        Ending.returned v = .returned (.tuple #[.int .u64 (doG k c a b xs).u, .bool (doG k c a b xs).o, .int .i64 (doG k c a b xs).c]) ∧ ∃ rest'' : List Value, rest''.length = rest.length ∧ Turned q (rowObj (doG k c a b xs).l rest'' 51) w w' := by
      intro v xs' g hv hx hg hh hl
      subst hv hx hg
      rw [doG_length] at hl
      exact ⟨rfl, rest', by omega, ⟨t1, t2, t3, t4, fun j hj hq => by
        by_cases h : j = p
        · subst h
          rw [h1, ← r0, tk _ _ _ rfl]
          simp [denL, SV.den, SI.den, SL.den, r1, l0, i4]
        · exact t5 j hj h hq, hh⟩⟩
    have hb : k < 1 ∨ 7 < k → doG k c a b xs = ⟨0, 2, false, xs, []⟩ := doG_bad
    have hpl : ¬ (k < 1 ∨ 7 < k) → c < 0 ∨ (xs.length : Int) ≤ c → doG k c a b xs = ⟨0, 3, false, xs, []⟩ := doG_place
    by_cases hk : k < 1 ∨ 7 < k
    · first
        | (exfalso; omega)
        | exact fin (by rw [hb hk]; simp [-List.getD_eq_getElem?_getD, SV.den, denL, SI.den, SB.den]) (by rw [hb hk]; simp [-List.getD_eq_getElem?_getD, SL.den, l0]) rfl t6 t7
    by_cases hpc : c < 0 ∨ (xs.length : Int) ≤ c
    · first
        | (exfalso; omega)
        | exact fin (by rw [hpl hk hpc]; simp [-List.getD_eq_getElem?_getD, SV.den, denL, SI.den, SB.den]) (by rw [hpl hk hpc]; simp [-List.getD_eq_getElem?_getD, SL.den, l0]) rfl t6 t7
    have c1 : 0 ≤ c := by omega
    have c2 : c < xs.length := by omega
    have hkk : k = 1 ∨ k = 2 ∨ k = 3 ∨ k = 4 ∨ k = 5 ∨ k = 6 ∨ k = 7 := by omega
    rcases hkk with rfl | rfl | rfl | rfl | rfl | rfl | rfl
    · first
        | (exfalso; omega)
        | exact fin (by rw [doG_1 c1 c2]; simp [-List.getD_eq_getElem?_getD, SV.den, denL, SI.den, SB.den, SL.den, e1, l0]) (by rw [doG_1 c1 c2]; simp [-List.getD_eq_getElem?_getD, SL.den, SI.den, l0, e1, getD_set_self]) rfl t6 t7
    · first
        | (exfalso; omega)
        | exact fin (by rw [doG_2 c1 c2]; simp [-List.getD_eq_getElem?_getD, SV.den, denL, SI.den, SB.den, SL.den, e1, l0]) (by rw [doG_2 c1 c2]; simp [-List.getD_eq_getElem?_getD, SL.den, SI.den, l0, e1, e2]) rfl t6 t7
    · by_cases hw : xs.getD c.toNat 0 = a
      · first
          | (exfalso; omega)
          | (exfalso; simp [hw] at hp; done)
          | exact fin (by rw [doG_3y c1 c2 hw]; simp [-List.getD_eq_getElem?_getD, SV.den, denL, SI.den, SB.den, SL.den, e1, e2, l0, hw]) (by rw [doG_3y c1 c2 hw]; simp [-List.getD_eq_getElem?_getD, SL.den, SI.den, l0, e1, e3]; done) rfl t6 t7
      · first
          | (exfalso; omega)
          | (exfalso; simp [hw] at hp; done)
          | exact fin (by rw [doG_3n c1 c2 hw]; simp [-List.getD_eq_getElem?_getD, SV.den, denL, SI.den, SB.den, SL.den, e1, e2, l0, hw]) (by rw [doG_3n c1 c2 hw]; simp [-List.getD_eq_getElem?_getD, SL.den, SI.den, l0, e1, getD_set_self]) rfl t6 t7
    · first
        | (exfalso; omega)
        | exact fin (by rw [doG_4 c1 c2]; simp [-List.getD_eq_getElem?_getD, SV.den, denL, SI.den, SB.den, SL.den, e1, l0]) (by rw [doG_4 c1 c2]; simp [-List.getD_eq_getElem?_getD, SL.den, SI.den, l0, e1, e2]) rfl t6 t7
    · first
        | (exfalso; omega)
        | exact fin (by rw [doG_5 c1 c2]; simp [-List.getD_eq_getElem?_getD, SV.den, denL, SI.den, SB.den, SL.den, e1, l0]) (by rw [doG_5 c1 c2]; simp [-List.getD_eq_getElem?_getD, SL.den, SI.den, l0, e1, e2]) rfl t6 t7
    · first
        | (exfalso; omega)
        | exact fin (by rw [doG_6 c1 c2]; simp [-List.getD_eq_getElem?_getD, SV.den, denL, SI.den, SB.den, SL.den, e1, l0]) (by rw [doG_6 c1 c2]; simp [-List.getD_eq_getElem?_getD, SL.den, SI.den, l0, e1, e2]) rfl t6 t7
    · first
        | (exfalso; omega)
        | exact fin (by rw [doG_7 c1 c2]; by_cases hw : xs.getD c.toNat 0 = a <;> simp [-List.getD_eq_getElem?_getD, SV.den, denL, SI.den, SB.den, SL.den, e1, e2, l0, hw]) (by rw [doG_7 c1 c2]; simp [-List.getD_eq_getElem?_getD, SL.den, SI.den, l0, e1, getD_set_self]) rfl t6 t7

theorem ref_calls : DoR Try.prog 32 51 := by
  intro w q cap xs rest k c a b h2 hm
  have hql : q < w.heap.size := (Array.getElem?_eq_some_iff.1 h2).1
  have hw : HW (base2 w q q) (envG (int6 k c a b cap (xs.length + rest.length : Nat)) (fun _ => xs)) (fun _ => q) hpR w := by
    refine ⟨rfl, rfl, rfl, Nat.le_refl _, fun _ _ => rfl, by decide, fun n j => j = q, fun n bk hn => ?_, fun n bk j hn hj => ?_, fun n bk m bk' j hn hn' hj hj' => ?_⟩
    · simp only [hpR, List.mem_cons, List.not_mem_nil, or_false, Prod.mk.injEq] at hn
      obtain ⟨rfl, rfl⟩ := hn
      refine ⟨⟨rest, h2, rfl, ?_⟩, fun j => Iff.rfl⟩
      show ((xs.length + rest.length : Nat) : Int) ≤ _
      omega
    · exact .inr (.inl hj)
    · simp only [hpR, List.mem_cons, List.not_mem_nil, or_false, Prod.mk.injEq] at hn hn'
      rw [hn.1, hn'.1]
  have e : (denL (envG (int6 k c a b cap (xs.length + rest.length : Nat)) (fun _ => xs)) (fun _ => q) [.sl 1 (.lit 0) (.len (.var 0)) (.var 4), accX]).toArray = #[.slice (some ⟨q, 0, none⟩) xs.length cap, .agg #[.int .i64 k, .int .i64 c, .int .u64 a, .int .u64 b]] := by
    simp [denL, SV.den, SI.den, SL.den, accX, envG, int6]
  rw [← e]
  refine rw_calls pr (noOrac_ok (I := inM)) (run_ref.trans rfl) w q q _ _ _ rfl (pcDen_nil _) hw (fun ρ' hr => hr 1 (out_LO (by omega))) ?_
  intro x hx ν' ρ' hag hp
  have l0 : ν'.l 0 = xs := hag.l 0 (out_LO (by omega))
  have hI : ν'.I = inM := hag.I
  have e0 : ν'.i 0 = k := hag.i 0 (out_LO (by omega))
  have e1 : ν'.i 1 = c := hag.i 1 (out_LO (by omega))
  have e2 : ν'.i 2 = a := hag.i 2 (out_LO (by omega))
  have e3 : ν'.i 3 = b := hag.i 3 (out_LO (by omega))
  have i5 : ν'.i 5 = (xs.length + rest.length : Nat) := hag.i 5 (out_LO (by omega))
  clear hag
  simp only [List.mem_cons, List.not_mem_nil, or_false] at hx
  rcases hx with rfl | rfl | rfl | rfl | rfl | rfl | rfl | rfl | rfl | rfl | rfl | rfl
  all_goals
    simp only [pcDen_cons_iff, pcDen_nil_iff, SB.den, beq_iff_eq, beq_eq_false_iff_ne, decide_eq_true_eq, decide_eq_false_iff_not] at hp
    simp only [SI.den, SL.den, e0, e1, e2, e3, l0] at hp
    refine ⟨(by first | rfl | (exfalso; omega)), fun w' rest' t1 t2 t3 t4 t5 tk t6 t7 => ?_⟩
    simp only [SI.den, i5] at t7
    have fin : ∀ {v : Value} {xs' : List Int} {g : Gh}, v = .tuple #[.int .u64 g.u, .bool g.o, .int .i64 g.c] → xs' = g.l → g = doG k c a b xs → w'.heap[q]? = some (rowObj xs' rest' 51) → ((xs.length : Int) + rest.length = (xs'.length + rest'.length : Nat)) →
        Ending.returned v = .returned (.tuple #[.int .u64 (doG k c a b xs).u, .bool (doG k c a b xs).o, .int .i64 (doG k c a b xs).c]) ∧ ∃ rest'' : List Value, rest''.length = rest.length ∧ Turned q (rowObj (doG k c a b xs).l rest'' 51) w w' := by
      intro v xs' g hv hx hg hh hl
      subst hv hx hg
      rw [doG_length] at hl
      exact ⟨rfl, rest', by omega, ⟨t1, t2, t3, t4, fun j hj hq => t5 j hj hq hq, hh⟩⟩
    have hb : k < 1 ∨ 7 < k → doG k c a b xs = ⟨0, 2, false, xs, []⟩ := doG_bad
    have hpl : ¬ (k < 1 ∨ 7 < k) → c < 0 ∨ (xs.length : Int) ≤ c → doG k c a b xs = ⟨0, 3, false, xs, []⟩ := doG_place
    by_cases hk : k < 1 ∨ 7 < k
    · first
        | (exfalso; omega)
        | exact fin (by rw [hb hk]; simp [-List.getD_eq_getElem?_getD, SV.den, denL, SI.den, SB.den]) (by rw [hb hk]; simp [-List.getD_eq_getElem?_getD, SL.den, l0]) rfl t6 t7
    by_cases hpc : c < 0 ∨ (xs.length : Int) ≤ c
    · first
        | (exfalso; omega)
        | exact fin (by rw [hpl hk hpc]; simp [-List.getD_eq_getElem?_getD, SV.den, denL, SI.den, SB.den]) (by rw [hpl hk hpc]; simp [-List.getD_eq_getElem?_getD, SL.den, l0]) rfl t6 t7
    have c1 : 0 ≤ c := by omega
    have c2 : c < xs.length := by omega
    have hkk : k = 1 ∨ k = 2 ∨ k = 3 ∨ k = 4 ∨ k = 5 ∨ k = 6 ∨ k = 7 := by omega
    rcases hkk with rfl | rfl | rfl | rfl | rfl | rfl | rfl
    · first
        | (exfalso; omega)
        | exact fin (by rw [doG_1 c1 c2]; simp [-List.getD_eq_getElem?_getD, SV.den, denL, SI.den, SB.den, SL.den, e1, l0]) (by rw [doG_1 c1 c2]; simp [-List.getD_eq_getElem?_getD, SL.den, SI.den, l0, e1, getD_set_self]) rfl t6 t7
    · first
        | (exfalso; omega)
        | exact fin (by rw [doG_2 c1 c2]; simp [-List.getD_eq_getElem?_getD, SV.den, denL, SI.den, SB.den, SL.den, e1, l0]) (by rw [doG_2 c1 c2]; simp [-List.getD_eq_getElem?_getD, SL.den, SI.den, l0, e1, e2]) rfl t6 t7
    · by_cases hw : xs.getD c.toNat 0 = a
      · first
          | (exfalso; omega)
          | (exfalso; simp [hw] at hp; done)
          | exact fin (by rw [doG_3y c1 c2 hw]; simp [-List.getD_eq_getElem?_getD, SV.den, denL, SI.den, SB.den, SL.den, e1, e2, l0, hw]) (by rw [doG_3y c1 c2 hw]; simp [-List.getD_eq_getElem?_getD, SL.den, SI.den, l0, e1, e3]; done) rfl t6 t7
      · first
          | (exfalso; omega)
          | (exfalso; simp [hw] at hp; done)
          | exact fin (by rw [doG_3n c1 c2 hw]; simp [-List.getD_eq_getElem?_getD, SV.den, denL, SI.den, SB.den, SL.den, e1, e2, l0, hw]) (by rw [doG_3n c1 c2 hw]; simp [-List.getD_eq_getElem?_getD, SL.den, SI.den, l0, e1, getD_set_self]) rfl t6 t7
    · first
        | (exfalso; omega)
        | exact fin (by rw [doG_4 c1 c2]; simp [-List.getD_eq_getElem?_getD, SV.den, denL, SI.den, SB.den, SL.den, e1, l0]) (by rw [doG_4 c1 c2]; simp [-List.getD_eq_getElem?_getD, SL.den, SI.den, l0, e1, e2]) rfl t6 t7
    · first
        | (exfalso; omega)
        | exact fin (by rw [doG_5 c1 c2]; simp [-List.getD_eq_getElem?_getD, SV.den, denL, SI.den, SB.den, SL.den, e1, l0]) (by rw [doG_5 c1 c2]; simp [-List.getD_eq_getElem?_getD, SL.den, SI.den, l0, e1, e2]) rfl t6 t7
    · first
        | (exfalso; omega)
        | exact fin (by rw [doG_6 c1 c2]; simp [-List.getD_eq_getElem?_getD, SV.den, denL, SI.den, SB.den, SL.den, e1, l0]) (by rw [doG_6 c1 c2]; simp [-List.getD_eq_getElem?_getD, SL.den, SI.den, l0, e1, e2]) rfl t6 t7
    · first
        | (exfalso; omega)
        | exact fin (by rw [doG_7 c1 c2]; by_cases hw : xs.getD c.toNat 0 = a <;> simp [-List.getD_eq_getElem?_getD, SV.den, denL, SI.den, SB.den, SL.den, e1, e2, l0, hw]) (by rw [doG_7 c1 c2]; simp [-List.getD_eq_getElem?_getD, SL.den, SI.den, l0, e1, getD_set_self]) rfl t6 t7
end Go.Proofs.Ytoogepoalbhlhaa
