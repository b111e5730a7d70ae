/- 'coachyardlaw03.CellsPlay' returns true for every size and every list of accesses, and leaves all that was there as it was. -/
import Derived.Test.YtoogepoalbhlhaaLwCellsO
import Derived.Test.YtoogepoalbhlhaaLwArgs
import Derived.Test.YtoogepoalbhlhaaSy25
import Derived.Test.YtoogepoalbhlhaaRows
set_option linter.unusedVariables false
set_option linter.unusedSimpArgs false
namespace Go.Proofs.Ytoogepoalbhlhaa
open Go.ChangeShapes Go.WideShapes Go.ChangeAt Go.RowKit Go.Sy

/-! ### the loop -/
def deadUndef : List SV → List SV
  | [] => []
  | .tup [] :: r => .dead :: deadUndef r
  | v :: r => v :: deadUndef r
def setLists (l : SL) : Heap → Heap
  | [] => []
  | (n, .row k _ c t) :: r => (n, .row k l c t) :: setLists l r
  | x :: r => x :: setLists l r
def tabX : Heap := [(0, .tab 10 (.var 0) [some .i64, some .i64, some .u64, some .u64] (.var 2) (.var 1))]
def argsP : List SV := [.int .i64 (.var 0), .sl 0 (.var 2) (.var 1) (.var 3)]
def pcP : PC := [(.lt (.var 2) (.lit 0), false), (.lt (.var 1) (.lit 0), false)]
def nmP : Nat := nmAt 12
def capP (P : Program) : Leaf := capL P orC 4 12 argsP pcP tabX
def frPI (P : Program) : List SV := deadUndef ((capP P).fr.set 8 (.int .i64 (.var nmP)))
def hpPI (P : Program) : Heap := setLists (.var nmP) (capP P).hp
def pcPI : PC := [(.lt (.var nmP) (.lit 0), false), (.lt (.var 2) (.lit 0), false), (.lt (.var 1) (.lit 0), false)]
def tgP (P : Program) : List Tgt := [⟨.exit 0, frPI P, hpPI P, [(.eq (.nat (.var 0)) (.len (.var nmP)), true)]⟩]
def badP : PC := [(.lt (.lit 200) (.nat (.var 1)), true), (.lt (.var 2) (.lit 0), true), (.lt (.var 1) (.lit 0), true)]
def orP (P : Program) : Orac := orC.withLoop 4 12 nmP (capP P).fr (capP P).hp (mkM nmP (tgP P) badP)
def sumsP : List Sum := [{ ex := SEx.bad, ds := [], ls := [], pc := [(SB.lt (SI.var nmP) (SI.var 1), false), (SB.lt (SI.var nmP) (SI.var 1).nat, true), (SB.lt (SI.var nmP) (SI.lit 0), false), (SB.lt (SI.var 2) (SI.lit 0), false), (SB.lt (SI.var 1) (SI.lit 0), false)] }, { ex := SEx.normal, ds := [(SV.int IntKind.i64 (SI.wrap IntKind.i64 ((SI.var nmP).add (SI.lit 1))), SV.int IntKind.i64 (SI.var nmP))], ls := [(SL.gl 0 (doX (SI.gi 10 (SG.var 0) (SI.var nmP) (SI.lit 0)) (SI.gi 11 (SG.var 0) (SI.var nmP) (SI.lit 0)) (SI.gi 12 (SG.var 0) (SI.var nmP) (SI.lit 0)) (SI.gi 13 (SG.var 0) (SI.var nmP) (SI.lit 0)) (SL.var nmP)) (SI.lit 0) (SI.lit 0), SL.var nmP), (SL.gl 0 (doX (SI.gi 10 (SG.var 0) (SI.var nmP) (SI.lit 0)) (SI.gi 11 (SG.var 0) (SI.var nmP) (SI.lit 0)) (SI.gi 12 (SG.var 0) (SI.var nmP) (SI.lit 0)) (SI.gi 13 (SG.var 0) (SI.var nmP) (SI.lit 0)) (SL.var nmP)) (SI.lit 0) (SI.lit 0), SL.var nmP)], pc := [(SB.lt (SI.var nmP) (SI.var 1), true), (SB.lt (SI.var nmP) (SI.var 1).nat, true), (SB.lt (SI.var nmP) (SI.lit 0), false), (SB.lt (SI.var 2) (SI.lit 0), false), (SB.lt (SI.var 1) (SI.lit 0), false)] }, { ex := SEx.bad, ds := [], ls := [], pc := [(SB.eq (SI.var 0).nat (SI.len (SL.var nmP)), false), (SB.lt (SI.var nmP) (SI.var 1), true), (SB.lt (SI.var nmP) (SI.var 1).nat, true), (SB.lt (SI.var nmP) (SI.lit 0), false), (SB.lt (SI.var 2) (SI.lit 0), false), (SB.lt (SI.var 1) (SI.lit 0), false)] }, { ex := SEx.bad, ds := [], ls := [], pc := [(SB.eq (SI.var 0).nat (SI.len (SL.var nmP)), false), (SB.lt (SI.var nmP) (SI.var 1), true), (SB.lt (SI.var nmP) (SI.var 1).nat, true), (SB.lt (SI.var nmP) (SI.lit 0), false), (SB.lt (SI.var 2) (SI.lit 0), false), (SB.lt (SI.var 1) (SI.lit 0), false)] }, { ex := SEx.exit 0, ds := [(SV.int IntKind.i64 (SI.var nmP), SV.int IntKind.i64 (SI.var nmP))], ls := [(SL.var nmP, SL.var nmP), (SL.var nmP, SL.var nmP)], pc := [(SB.lt (SI.var nmP) (SI.var 1).nat, false), (SB.lt (SI.var nmP) (SI.lit 0), false), (SB.lt (SI.var 2) (SI.lit 0), false), (SB.lt (SI.var 1) (SI.lit 0), false)] }]
def startP : List (SV × SV) := [(.int .i64 (.lit 0), .int .i64 (.var nmP))]
def startLP : List (SL × SL) := [(.rep (.var 0) (.lit 0), .var nmP), (.rep (.var 0) (.lit 0), .var nmP)]
theorem bodyP : (codeX Try.prog orC (2^700) (2^650) 4 6000 0 (loopAt Try.prog 4 12) (frPI Try.prog) pcPI (hpPI Try.prog)).bind (sumsM nmP (2^700) (2^650) (⟨.normal, frPI Try.prog, hpPI Try.prog, pcPI⟩ :: tgP Try.prog)) = some sumsP := by kernel_rfl
theorem oneP : (loopsAt Try.prog 4 12).length = 1 := by kernel_rfl
theorem stP : diffX (fun v => v.av nmP (nmP + 64)) (capP Try.prog).fr (frPI Try.prog) = some startP := by kernel_rfl
theorem slP : diffH (fun m => out nmP (nmP + 64) m) (fun b => b.av nmP (nmP + 64)) (capP Try.prog).hp (hpPI Try.prog) = some startLP := by kernel_rfl

def setIL {G : Type} (ν : Env G) (n : Nat) (x : Int) (l : List Int) : Env G := { ν with i := fun m => if m = n then x else ν.i m, l := fun m => if m = n then l else ν.l m }
theorem setIL_agree {G : Type} (ν : Env G) (ρ : Nat → Nat) (n : Nat) (x : Int) (l : List Int) : Agree n (n + 64) ν (setIL ν n x l) ρ ρ := by
  have h : ∀ m, out n (n + 64) m = true → m ≠ n := fun m hm => by
    unfold out at hm
    simp only [Bool.or_eq_true, Nat.ble_eq] at hm
    omega
  exact ⟨rfl, fun _ _ => rfl, fun m hm => by simp [setIL, h m hm], fun _ _ => rfl, fun _ _ => rfl, fun m hm => by simp [setIL, h m hm], fun _ _ => rfl, fun _ _ => rfl⟩
theorem setIL_i {G : Type} (ν : Env G) (n : Nat) (x : Int) (l : List Int) : (setIL ν n x l).i n = x := by simp [setIL]
theorem setIL_l {G : Type} (ν : Env G) (n : Nat) (x : Int) (l : List Int) : (setIL ν n x l).l n = l := by simp [setIL]
/-- A field of the table's row. -/
def tq (ν : Env Gh) (j : Nat) (i : Int) : Int := inM.gi (10 + j) (ν.g 0) i 0

attribute [local irreducible] nmAt
theorem setIL_o {G : Type} (ν : Env G) (x : Int) (l : List Int) {m : Nat} (h : m < 1000) : (setIL ν nmP x l).i m = ν.i m := (setIL_agree ν (fun _ => 0) nmP x l).i m (out_small h)
theorem orP_ok : OOK Try.prog (orP Try.prog) inM := by
  have os : ∀ {m : Nat}, m < 1000 → out nmP (nmP + 64) m = true := fun h => out_small h
  have ob : ∀ {m : Nat}, m < 1000 → out (2^700) (2^700 + 2^650) m = true := fun h => out_big h
  have on : out (2^700) (2^700 + 2^650) nmP = true := out_nm (s := 12) (j := 0) (by decide +kernel) (by omega)
  have hbads : ∀ {ν : Env Gh}, (∀ x ∈ badP, x.1.den ν ≠ x.2) → (ν.i 1).toNat ≤ 200 ∧ 0 ≤ ν.i 2 ∧ 0 ≤ ν.i 1 := by
    intro ν h
    simp only [badP, List.mem_cons, List.not_mem_nil, or_false, forall_eq_or_imp, forall_eq, SB.den, ne_eq, decide_eq_true_eq] at h
    simp only [SI.den] at h
    omega
  have hpcI : ∀ {ν ν1 : Env Gh} {ρ : Nat → Nat}, (∀ x ∈ badP, x.1.den ν ≠ x.2) → Agree nmP (nmP + 64) ν ν1 ρ ρ → 0 ≤ ν1.i nmP → pcDen ν1 pcPI := by
    intro ν ν1 ρ hb ha h0
    obtain ⟨b1, b2, b3⟩ := hbads hb
    simp only [pcPI, pcDen_cons_iff, pcDen_nil_iff, SB.den, decide_eq_false_iff_not]
    simp only [SI.den, ha.i 1 (os (by omega)), ha.i 2 (os (by omega))]
    exact ⟨by omega, by omega, by omega, trivial⟩
  refine loopM_ok pr orC_ok oneP bodyP stP slP
    (fun ν ν1 => 0 ≤ ν1.i nmP ∧ ν1.i nmP ≤ (ν.i 1).toNat ∧ (ν1.l nmP).length = (ν.i 0).toNat) (fun ν ν1 => ((ν.i 1).toNat - ν1.i nmP).toNat) ?_ ?_ orC_ok
  · intro ν ρ hI hb
    obtain ⟨b1, b2, b3⟩ := hbads hb
    have ha := setIL_agree ν ρ nmP 0 (List.replicate (ν.i 0).toNat 0)
    refine ⟨_, ha, ⟨by rw [setIL_i]; omega, by rw [setIL_i]; omega, by rw [setIL_l]; simp⟩, hpcI hb ha (by rw [setIL_i]; omega), fun y hy => ?_, fun y hy => ?_⟩
    · simp only [startP, List.mem_cons, List.not_mem_nil, or_false] at hy
      subst hy
      simp only [SV.den, SI.den, setIL_i]
    · simp only [startLP, List.mem_cons, List.not_mem_nil, or_false, or_self] at hy
      subst hy
      simp only [SL.den, SI.den, setIL_l]
  · intro s hs ν ρ ν1 ν2 ρ2 hI hb a1 hJ _ a2 hp2
    obtain ⟨b1, b2, b3⟩ := hbads hb
    obtain ⟨j1, j2, j3⟩ := hJ
    have i0 : ν2.i 0 = ν.i 0 := (a2.i 0 (ob (by omega))).trans (a1.i 0 (os (by omega)))
    have i1 : ν2.i 1 = ν.i 1 := (a2.i 1 (ob (by omega))).trans (a1.i 1 (os (by omega)))
    have i2 : ν2.i 2 = ν.i 2 := (a2.i 2 (ob (by omega))).trans (a1.i 2 (os (by omega)))
    have g0 : ν2.g 0 = ν.g 0 := (a2.g 0 (ob (by omega))).trans (a1.g 0 (os (by omega)))
    have ek : ν2.i nmP = ν1.i nmP := a2.i nmP on
    have el : ν2.l nmP = ν1.l nmP := a2.l nmP on
    have hI2 : ν2.I = inM := a2.I.trans (a1.I.trans hI)
    have ha3 : ∀ x l, Agree nmP (nmP + 64) ν (setIL ν nmP x l) ρ ρ := fun x l => setIL_agree ν ρ nmP x l
    simp only [sumsP, List.mem_cons, List.not_mem_nil, or_false] at hs
    rcases hs with rfl | rfl | rfl | rfl | rfl
    · simp only [pcDen_cons_iff, SB.den, decide_eq_true_eq, decide_eq_false_iff_not, beq_eq_false_iff_ne] at hp2
      simp only [SI.den, SL.den, i0, i1, i2, ek, el] at hp2
      exfalso
      omega
    · simp only [pcDen_cons_iff, SB.den, decide_eq_true_eq, decide_eq_false_iff_not] at hp2
      simp only [SI.den, SL.den, i0, i1, i2, ek, el] at hp2
      refine ⟨setIL ν nmP (ν1.i nmP + 1) (doG (tq ν 0 (ν1.i nmP)) (tq ν 1 (ν1.i nmP)) (tq ν 2 (ν1.i nmP)) (tq ν 3 (ν1.i nmP)) (ν1.l nmP)).l, ha3 _ _, ⟨by rw [setIL_i]; omega, by rw [setIL_i]; omega, by rw [setIL_l, doG_length]; exact j3⟩, hpcI hb (ha3 _ _) (by rw [setIL_i]; omega), by rw [setIL_i]; omega, fun y hy => ?_, fun y hy => ?_⟩
      · simp only [List.mem_cons, List.not_mem_nil, or_false] at hy
        subst hy
        simp only [SV.den, SI.den, ek, setIL_i]
        rw [wrapS _ (by omega) (by omega)]
      · simp only [List.mem_cons, List.not_mem_nil, or_false] at hy
        rcases hy with rfl | rfl <;> (simp only [SL.den, SI.den, SG.den, doX_den hI2, hI2, inM_gl, ek, el, setIL_l, g0]; rfl)
    · simp only [pcDen_cons_iff, SB.den, decide_eq_true_eq, decide_eq_false_iff_not, beq_eq_false_iff_ne] at hp2
      simp only [SI.den, SL.den, i0, i1, i2, ek, el] at hp2
      exfalso
      omega
    · simp only [pcDen_cons_iff, SB.den, decide_eq_true_eq, decide_eq_false_iff_not, beq_eq_false_iff_ne] at hp2
      simp only [SI.den, SL.den, i0, i1, i2, ek, el] at hp2
      exfalso
      omega
    · simp only [pcDen_cons_iff, SB.den, decide_eq_true_eq, decide_eq_false_iff_not] at hp2
      simp only [SI.den, SL.den, i0, i1, i2, ek, el] at hp2
      refine ⟨setIL ν nmP (ν1.i nmP) (ν1.l nmP), ha3 _ _, fun t ht he => ?_, fun y hy => ?_, fun y hy => ?_⟩
      · simp only [tgP, List.mem_cons, List.not_mem_nil, or_false] at ht
        subst ht
        refine pcDen_one ?_
        simp only [SB.den, SI.den, SL.den, setIL_l, setIL_o ν _ _ (show (0 : Nat) < 1000 by omega), beq_iff_eq]
        omega
      · simp only [List.mem_cons, List.not_mem_nil, or_false] at hy
        subst hy
        simp only [SV.den, SI.den, ek, setIL_i]
      · simp only [List.mem_cons, List.not_mem_nil, or_false] at hy
        first
          | (rcases hy with rfl | rfl <;> simp only [SL.den, el, setIL_l])
          | (subst hy; simp only [SL.den, el, setIL_l])
          | exact hy.elim

/-! ### the walk -/
def restPlay : Option (List (Bool × SV × PC)) := some [(true, SV.tup [], [(SB.lt (SI.var 0) (SI.lit 0), true), (SB.lt (SI.lit 65536) (SI.var 0), false), (SB.lt (SI.var 0) (SI.lit 1), false), (SB.lt (SI.lit 2000) (SI.var 0), false), (SB.lt (SI.lit 200) (SI.var 1).nat, false), (SB.lt (SI.var 2) (SI.lit 0), false), (SB.lt (SI.var 1) (SI.lit 0), false)]), (true, SV.tup [], [(SB.lt (SI.var 0) (SI.lit 1073741824), false), (SB.lt (SI.var 0) (SI.lit 0), false), (SB.lt (SI.lit 65536) (SI.var 0), false), (SB.lt (SI.var 0) (SI.lit 1), false), (SB.lt (SI.lit 2000) (SI.var 0), false), (SB.lt (SI.lit 200) (SI.var 1).nat, false), (SB.lt (SI.var 2) (SI.lit 0), false), (SB.lt (SI.var 1) (SI.lit 0), false)]), (false, SV.bool (SB.lit false), [(SB.eq (SI.var 0).nat (SI.var 0), false), (SB.lt (SI.var 0) (SI.lit 1073741824), true), (SB.lt (SI.var 0) (SI.lit 0), false), (SB.lt (SI.lit 65536) (SI.var 0), false), (SB.lt (SI.var 0) (SI.lit 1), false), (SB.lt (SI.lit 2000) (SI.var 0), false), (SB.lt (SI.lit 200) (SI.var 1).nat, false), (SB.lt (SI.var 2) (SI.lit 0), false), (SB.lt (SI.var 1) (SI.lit 0), false)]), (true, SV.tup [], [(SB.lt (SI.len (SL.var nmP)) (SI.var 0), true), (SB.eq (SI.var 0).nat (SI.len (SL.var nmP)), true), (SB.eq (SI.var 0).nat (SI.var 0), true), (SB.lt (SI.var 0) (SI.lit 1073741824), true), (SB.lt (SI.var 0) (SI.lit 0), false), (SB.lt (SI.lit 65536) (SI.var 0), false), (SB.lt (SI.var 0) (SI.lit 1), false), (SB.lt (SI.lit 2000) (SI.var 0), false), (SB.lt (SI.lit 200) (SI.var 1).nat, false), (SB.lt (SI.var 2) (SI.lit 0), false), (SB.lt (SI.var 1) (SI.lit 0), false)]), (true, SV.tup [], [(SB.lt (SI.len ((SL.var nmP).take (SI.var 0))) (SI.lit 1099511627776), false), (SB.lt (SI.len (SL.var nmP)) (SI.var 0), false), (SB.eq (SI.var 0).nat (SI.len (SL.var nmP)), true), (SB.eq (SI.var 0).nat (SI.var 0), true), (SB.lt (SI.var 0) (SI.lit 1073741824), true), (SB.lt (SI.var 0) (SI.lit 0), false), (SB.lt (SI.lit 65536) (SI.var 0), false), (SB.lt (SI.var 0) (SI.lit 1), false), (SB.lt (SI.lit 2000) (SI.var 0), false), (SB.lt (SI.lit 200) (SI.var 1).nat, false), (SB.lt (SI.var 2) (SI.lit 0), false), (SB.lt (SI.var 1) (SI.lit 0), false)]), (false, SV.bool (SB.gb 0 (SG.app 2 (lsX ((SL.var nmP).take (SI.var 0))) (lsX (SL.var nmP)) (SI.lit 0) (SI.lit 0) (SI.lit 0) (SI.lit 0) SL.nil) (SI.lit 0) (SI.lit 0)), [(SB.lt (SI.len ((SL.var nmP).take (SI.var 0))) (SI.lit 1099511627776), true), (SB.lt (SI.len (SL.var nmP)) (SI.var 0), false), (SB.eq (SI.var 0).nat (SI.len (SL.var nmP)), true), (SB.eq (SI.var 0).nat (SI.var 0), true), (SB.lt (SI.var 0) (SI.lit 1073741824), true), (SB.lt (SI.var 0) (SI.lit 0), false), (SB.lt (SI.lit 65536) (SI.var 0), false), (SB.lt (SI.var 0) (SI.lit 1), false), (SB.lt (SI.lit 2000) (SI.var 0), false), (SB.lt (SI.lit 200) (SI.var 1).nat, false), (SB.lt (SI.var 2) (SI.lit 0), false), (SB.lt (SI.var 1) (SI.lit 0), false)]), (true, SV.tup [], [(SB.eq (SI.var 0).nat (SI.len (SL.var nmP)), false), (SB.lt (SI.len ((SL.var nmP).take (SI.var 0))) (SI.lit 1099511627776), true), (SB.lt (SI.len (SL.var nmP)) (SI.var 0), false), (SB.eq (SI.var 0).nat (SI.len (SL.var nmP)), true), (SB.eq (SI.var 0).nat (SI.var 0), true), (SB.lt (SI.var 0) (SI.lit 1073741824), true), (SB.lt (SI.var 0) (SI.lit 0), false), (SB.lt (SI.lit 65536) (SI.var 0), false), (SB.lt (SI.var 0) (SI.lit 1), false), (SB.lt (SI.lit 2000) (SI.var 0), false), (SB.lt (SI.lit 200) (SI.var 1).nat, false), (SB.lt (SI.var 2) (SI.lit 0), false), (SB.lt (SI.var 1) (SI.lit 0), false)]), (true, SV.tup [], [(SB.lt (SI.lit 200) (SI.var 1).nat, true), (SB.eq (SI.var 0).nat (SI.var 0), true), (SB.lt (SI.var 0) (SI.lit 1073741824), true), (SB.lt (SI.var 0) (SI.lit 0), false), (SB.lt (SI.lit 65536) (SI.var 0), false), (SB.lt (SI.var 0) (SI.lit 1), false), (SB.lt (SI.lit 2000) (SI.var 0), false), (SB.lt (SI.lit 200) (SI.var 1).nat, false), (SB.lt (SI.var 2) (SI.lit 0), false), (SB.lt (SI.var 1) (SI.lit 0), false)]), (true, SV.tup [], [(SB.lt (SI.var 2) (SI.lit 0), true), (SB.eq (SI.var 0).nat (SI.var 0), true), (SB.lt (SI.var 0) (SI.lit 1073741824), true), (SB.lt (SI.var 0) (SI.lit 0), false), (SB.lt (SI.lit 65536) (SI.var 0), false), (SB.lt (SI.var 0) (SI.lit 1), false), (SB.lt (SI.lit 2000) (SI.var 0), false), (SB.lt (SI.lit 200) (SI.var 1).nat, false), (SB.lt (SI.var 2) (SI.lit 0), false), (SB.lt (SI.var 1) (SI.lit 0), false)]), (true, SV.tup [], [(SB.lt (SI.var 1) (SI.lit 0), true), (SB.eq (SI.var 0).nat (SI.var 0), true), (SB.lt (SI.var 0) (SI.lit 1073741824), true), (SB.lt (SI.var 0) (SI.lit 0), false), (SB.lt (SI.lit 65536) (SI.var 0), false), (SB.lt (SI.var 0) (SI.lit 1), false), (SB.lt (SI.lit 2000) (SI.var 0), false), (SB.lt (SI.lit 200) (SI.var 1).nat, false), (SB.lt (SI.var 2) (SI.lit 0), false), (SB.lt (SI.var 1) (SI.lit 0), false)])]
def restPlayN : Option (List (Bool × SV × PC)) := some [(true, SV.tup [], [(SB.lt (SI.var 0) (SI.lit 0), true), (SB.lt (SI.lit 65536) (SI.var 0), false), (SB.lt (SI.var 0) (SI.lit 1), false), (SB.lt (SI.lit 2000) (SI.var 0), false)]), (true, SV.tup [], [(SB.lt (SI.var 0) (SI.lit 1073741824), false), (SB.lt (SI.var 0) (SI.lit 0), false), (SB.lt (SI.lit 65536) (SI.var 0), false), (SB.lt (SI.var 0) (SI.lit 1), false), (SB.lt (SI.lit 2000) (SI.var 0), false)]), (false, SV.bool (SB.lit false), [(SB.eq (SI.var 0).nat (SI.var 0), false), (SB.lt (SI.var 0) (SI.lit 1073741824), true), (SB.lt (SI.var 0) (SI.lit 0), false), (SB.lt (SI.lit 65536) (SI.var 0), false), (SB.lt (SI.var 0) (SI.lit 1), false), (SB.lt (SI.lit 2000) (SI.var 0), false)]), (true, SV.tup [], [(SB.lt (SI.var 0).nat (SI.var 0), true), (SB.eq (SI.var 0).nat (SI.var 0), true), (SB.lt (SI.var 0) (SI.lit 1073741824), true), (SB.lt (SI.var 0) (SI.lit 0), false), (SB.lt (SI.lit 65536) (SI.var 0), false), (SB.lt (SI.var 0) (SI.lit 1), false), (SB.lt (SI.lit 2000) (SI.var 0), false)]), (true, SV.tup [], [(SB.lt (SI.len ((SL.rep (SI.var 0) (SI.lit 0)).take (SI.var 0))) (SI.lit 1099511627776), false), (SB.lt (SI.var 0).nat (SI.var 0), false), (SB.eq (SI.var 0).nat (SI.var 0), true), (SB.lt (SI.var 0) (SI.lit 1073741824), true), (SB.lt (SI.var 0) (SI.lit 0), false), (SB.lt (SI.lit 65536) (SI.var 0), false), (SB.lt (SI.var 0) (SI.lit 1), false), (SB.lt (SI.lit 2000) (SI.var 0), false)]), (false, SV.bool (SB.gb 0 (SG.app 2 (lsX ((SL.rep (SI.var 0) (SI.lit 0)).take (SI.var 0))) (lsX (SL.rep (SI.var 0) (SI.lit 0))) (SI.lit 0) (SI.lit 0) (SI.lit 0) (SI.lit 0) SL.nil) (SI.lit 0) (SI.lit 0)), [(SB.lt (SI.len ((SL.rep (SI.var 0) (SI.lit 0)).take (SI.var 0))) (SI.lit 1099511627776), true), (SB.lt (SI.var 0).nat (SI.var 0), false), (SB.eq (SI.var 0).nat (SI.var 0), true), (SB.lt (SI.var 0) (SI.lit 1073741824), true), (SB.lt (SI.var 0) (SI.lit 0), false), (SB.lt (SI.lit 65536) (SI.var 0), false), (SB.lt (SI.var 0) (SI.lit 1), false), (SB.lt (SI.lit 2000) (SI.var 0), false)])]
theorem run4v : restOf (runX Try.prog (orP Try.prog) 4 argsP pcP tabX) = restPlay := by kernel_rfl
theorem run4n : restOf (runX Try.prog orC 4 [.int .i64 (.var 0), .nilSl] [] []) = restPlayN := by kernel_rfl
theorem run4e : restOf (runX Try.prog orC 4 [.int .i64 (.var 0), .emp 0] [] []) = restPlayN := by kernel_rfl

theorem play_rest (x : Bool × SV × PC) (hx : restPlay.elim False (x ∈ ·)) (ν : Env Gh) (ρ : Nat → Nat) (hI : ν.I = inM) (hp : pcDen ν x.2.2) : x.1 = false ∧ x.2.1.den ν ρ = .bool true := by
  simp only [restPlay, Option.elim_some, List.mem_cons, List.not_mem_nil, or_false] at hx
  rcases hx with rfl | rfl | rfl | rfl | rfl | rfl | rfl | rfl | rfl | rfl
  all_goals
    simp only [pcDen_cons_iff, pcDen_nil_iff, SB.den, beq_iff_eq, beq_eq_false_iff_ne, decide_eq_true_eq, decide_eq_false_iff_not] at hp
    simp only [SI.den, SL.den, List.length_take] at hp
    first
      | (exfalso; omega)
      | (refine ⟨rfl, ?_⟩
         simp only [SV.den, SB.den, SI.den, SL.den, app2_den hI, lsX_den hI, hI, inM_gb, ghL_l]
         rw [List.take_of_length_le (by omega)]
         simp)
theorem playN_rest (x : Bool × SV × PC) (hx : restPlayN.elim False (x ∈ ·)) (ν : Env Gh) (ρ : Nat → Nat) (hI : ν.I = inM) (hp : pcDen ν x.2.2) : x.1 = false ∧ x.2.1.den ν ρ = .bool true := by
  simp only [restPlayN, Option.elim_some, List.mem_cons, List.not_mem_nil, or_false] at hx
  rcases hx with rfl | rfl | rfl | rfl | rfl | rfl
  all_goals
    simp only [pcDen_cons_iff, pcDen_nil_iff, SB.den, beq_iff_eq, beq_eq_false_iff_ne, decide_eq_true_eq, decide_eq_false_iff_not] at hp
    simp only [SI.den, SL.den, List.length_take, List.length_replicate] at hp
    first
      | (exfalso; omega)
      | (refine ⟨rfl, ?_⟩
         simp only [SV.den, SB.den, SI.den, SL.den, app2_den hI, lsX_den hI, hI, inM_gb, ghL_l]
         rw [List.take_of_length_le (by simp)]
         simp)

set_option maxRecDepth 100000 in
theorem cellsPlay_lifted (os : Os) (started : os.Started) (H : Type) (enc : TypeId × Value → H) :
    ReturnsInHanded {} Try.checked os 4 .any (Rows.cellsPlaySpec.pre6 enc Try.prog Try.f4 Rows.cellsPlayRow.domain false) (Rows.cellsPlaySpec.post enc Try.prog Try.f4 false true false false) := by
  refine law_lifted (C := Try.checked) facts own started (by kernel_rfl) Try.func4
    (ChangeSpec.witness6 (enc := enc) (C := Try.checked) false ⟨#[], #[.int .i64 0, .slice none 0 0], []⟩ 8 (by kernel_rfl) (by kernel_rfl) (by kernel_rfl) (by kernel_rfl)) rfl (fun ds h => ?_) Try.underlying4 (by kernel_rfl) (by kernel_rfl) fun W base args ds p hval hA hlt => ?_
  · rw [Try.params4] at h
    match ds, h with
    | [d, e], _ => rfl
  rw [Try.params4] at hA hval
  obtain ⟨v0, v1, d0, d1, p0, p1, rfl, rfl, rfl, h0, h1⟩ := trodAll_two hA
  obtain ⟨n, rfl, rfl, rfl, _⟩ := open_int Try.underlying3 (hval 0 3 v0 rfl rfl) h0
  rcases arg_quads (k0 := .i64) (k1 := .i64) (k2 := .u64) (k3 := .u64) Try.underlying46 Try.underlying55 cellsAcc rfl rfl rfl rfl (by kernel_rfl) (by kernel_rfl) (by kernel_rfl) (by kernel_rfl) Try.underlying3 Try.underlying3 Try.underlying51 Try.underlying51 (hval 1 46 v1 rfl rfl) h1 with rfl | ⟨ad, rfl⟩ | ⟨g, o, cap, qs, rfl, hg, _, _, hcell⟩
  · exact law_rest pr orC_ok (run4n.trans rfl) W (envG (fun _ => n) (fun _ => [])) (fun _ => 0) rfl (pcDen_nil _) (HW.empty _ _ _) fun x hx ν' ρ' hag hp => playN_rest x hx ν' ρ' hag.I hp
  · exact law_rest pr orC_ok (run4e.trans rfl) W ⟨inM, fun _ => ghL [], fun _ => n, fun _ => false, fun _ => .bool false, fun _ => [], fun _ => ad, fun _ => rfl⟩ (fun _ => 0) rfl (pcDen_nil _) (HW.empty _ _ _) fun x hx ν' ρ' hag hp => playN_rest x hx ν' ρ' hag.I hp
  · exact law_rest pr orP_ok (run4v.trans rfl) W ⟨inM, fun _ => ⟨0, 0, false, [], qs⟩, int4 n qs.length o cap, fun _ => false, fun _ => .bool false, fun _ => [], fun _ => ⟨0, 0, none⟩, fun _ => rfl⟩ (fun _ => g) rfl (by simp [pcP, pcDen_cons_iff, pcDen_nil_iff, SB.den, SI.den, int4])
      ((HW.empty _ _ _).addTab (by simp) (by rw [baseOf_own]; omega) (by simp [SI.den, int4]) (by
        intro i j k hi hj
        simp only [SI.den, int4, Int.toNat_natCast] at hi
        have hq := hcell i (qs[i]) (List.getElem?_eq_getElem hi)
        have hd : qs[i]? = some qs[i] := List.getElem?_eq_getElem hi
        match j, hj with
        | 0, hj => cases hj; simpa [SI.den, SG.den, int4, baseOf, tabV, inM, hd] using hq.1
        | 1, hj => cases hj; simpa [SI.den, SG.den, int4, baseOf, tabV, inM, hd] using hq.2.1
        | 2, hj => cases hj; simpa [SI.den, SG.den, int4, baseOf, tabV, inM, hd] using hq.2.2.1
        | 3, hj => cases hj; simpa [SI.den, SG.den, int4, baseOf, tabV, inM, hd] using hq.2.2.2
        | j + 4, hj => simp at hj))
      fun x hx ν' ρ' hag hp => play_rest x hx ν' ρ' hag.I hp

theorem cellsPlay_joined : joinedFacts Try.prog 4 Try.f4 Rows.cellsPlaySpec Rows.cellsPlayRow = true :=
  joined_of facts (by kernel_rfl) ⟨rfl, rfl, rfl, rfl, rfl, rfl⟩ (by kernel_rfl) (by kernel_rfl) (by kernel_rfl) (by kernel_rfl) (by kernel_rfl) (by kernel_rfl) (by kernel_rfl) ⟨by kernel_rfl, by kernel_rfl⟩ (by kernel_rfl)

theorem cellsPlay_holds : Rows.CellsPlaySaid :=
  OpenClaim.holds_of_wide 4 Try.f4 rfl rfl rfl rfl rfl rfl rfl ⟨rfl, rfl, rfl, rfl, rfl⟩ rfl rfl rfl rfl rfl (by kernel_rfl) Try.func4 cellsPlay_joined
    (of_decide_eq_true (by kernel_rfl)) (by unfold Func.isWrapper; first | (rw [if_pos (by decide +kernel)]; kernel_rfl) | (rw [if_neg (by decide +kernel)]; exact ⟨rfl, rfl⟩))
    (fun os started H enc _ => cellsPlay_lifted os started H enc)
#print axioms cellsPlay_holds
end Go.Proofs.Ytoogepoalbhlhaa
