/- The call queue.Line.Init, of a memory of zeros. -/
import Derived.Test.YtoogepoalbhlhaaLwInit
set_option linter.unusedVariables false
set_option linter.unusedSimpArgs false
namespace Go.Proofs.Ytoogepoalbhlhaa
open Go Go.Sy Go.RowKit

def argsL : List SV := [.agg [.int .i64 (.var 0), .int .i64 (.var 1)], .ptr 0 (.lit 0)]
def pcL : PC := [(.lt (.wrap .i64 (.add (.wrap .i64 (.add (.var 0) (.wrap .i64 (.mul (.lit 3) (.var 1))))) (.lit 2))) (.nat (.var 9)), true), (.lt (.var 0) (.wrap .i64 (.sub (.wrap .i64 (.sub (.lit 65536) (.wrap .i64 (.mul (.lit 3) (.var 1))))) (.lit 2))), true), (.lt (.var 0) (.lit 0), false), (.lt (.lit 4096) (.var 1), false), (.lt (.var 1) (.lit 2), false)]
def nmL : Nat := nmAt 5
def capLI (P : Program) : Leaf := capN 0 (capAll P noOrac 78 5 argsL pcL hpA)
def frLI (P : Program) : List SV := deadUndef ((capLI P).fr.set 16 (.int .i64 (.var nmL)))
def pcLI : PC := (.lt (.var nmL) (.lit 0), false) :: pcL
def tgL (P : Program) : List Tgt := [⟨.exit 0, frLI P, (capLI P).hp, []⟩]
def badL : PC := pcL.map fun x => (x.1, !x.2)

def arL : SL := arX (.var 9) (.wrap .i64 (.add (.var 0) (.lit 2))) (.var 1) (.add (.var 1) (.lit 1))
def sumsL : List Sum := [{ ex := SEx.normal, ds := [(SV.int IntKind.i64 (SI.wrap IntKind.i64 ((SI.var nmL).add (SI.lit 1))), SV.int IntKind.i64 (SI.var nmL))], ls := [], pc := [(SB.lt (SI.wrap IntKind.i64 ((SI.var 0).add (SI.var nmL))) (SI.lit 0), true), (SB.lt (SI.var nmL) (SI.wrap IntKind.i64 ((SI.wrap IntKind.i64 ((SI.lit 3).mul (SI.var 1))).add (SI.lit 3))), true), (SB.lt (SI.var nmL) (SI.lit 0), false), (SB.lt (SI.wrap IntKind.i64 ((SI.wrap IntKind.i64 ((SI.var 0).add (SI.wrap IntKind.i64 ((SI.lit 3).mul (SI.var 1))))).add (SI.lit 2))) (SI.var 9).nat, true), (SB.lt (SI.var 0) (SI.wrap IntKind.i64 ((SI.wrap IntKind.i64 ((SI.lit 65536).sub (SI.wrap IntKind.i64 ((SI.lit 3).mul (SI.var 1))))).sub (SI.lit 2))), true), (SB.lt (SI.var 0) (SI.lit 0), false), (SB.lt (SI.lit 4096) (SI.var 1), false), (SB.lt (SI.var 1) (SI.lit 2), false)] }, { ex := SEx.normal, ds := [(SV.int IntKind.i64 (SI.wrap IntKind.i64 ((SI.var nmL).add (SI.lit 1))), SV.int IntKind.i64 (SI.var nmL))], ls := [], pc := [(SB.lt (SI.wrap IntKind.i64 ((SI.var 0).add (SI.var nmL))) (SI.var 9).nat, false), (SB.lt (SI.wrap IntKind.i64 ((SI.var 0).add (SI.var nmL))) (SI.lit 0), false), (SB.lt (SI.var nmL) (SI.wrap IntKind.i64 ((SI.wrap IntKind.i64 ((SI.lit 3).mul (SI.var 1))).add (SI.lit 3))), true), (SB.lt (SI.var nmL) (SI.lit 0), false), (SB.lt (SI.wrap IntKind.i64 ((SI.wrap IntKind.i64 ((SI.var 0).add (SI.wrap IntKind.i64 ((SI.lit 3).mul (SI.var 1))))).add (SI.lit 2))) (SI.var 9).nat, true), (SB.lt (SI.var 0) (SI.wrap IntKind.i64 ((SI.wrap IntKind.i64 ((SI.lit 65536).sub (SI.wrap IntKind.i64 ((SI.lit 3).mul (SI.var 1))))).sub (SI.lit 2))), true), (SB.lt (SI.var 0) (SI.lit 0), false), (SB.lt (SI.lit 4096) (SI.var 1), false), (SB.lt (SI.var 1) (SI.lit 2), false)] }, { ex := SEx.normal, ds := [(SV.int IntKind.i64 (SI.wrap IntKind.i64 ((SI.var nmL).add (SI.lit 1))), SV.int IntKind.i64 (SI.var nmL))], ls := [((SL.rep (SI.var 9) (SI.lit 0)).set (SI.wrap IntKind.i64 ((SI.var 0).add (SI.var nmL))) (SI.lit 0), SL.rep (SI.var 9) (SI.lit 0))], pc := [(SB.lt (SI.wrap IntKind.i64 ((SI.var 0).add (SI.var nmL))) (SI.var 9).nat, true), (SB.lt (SI.wrap IntKind.i64 ((SI.var 0).add (SI.var nmL))) (SI.lit 0), false), (SB.lt (SI.var nmL) (SI.wrap IntKind.i64 ((SI.wrap IntKind.i64 ((SI.lit 3).mul (SI.var 1))).add (SI.lit 3))), true), (SB.lt (SI.var nmL) (SI.lit 0), false), (SB.lt (SI.wrap IntKind.i64 ((SI.wrap IntKind.i64 ((SI.var 0).add (SI.wrap IntKind.i64 ((SI.lit 3).mul (SI.var 1))))).add (SI.lit 2))) (SI.var 9).nat, true), (SB.lt (SI.var 0) (SI.wrap IntKind.i64 ((SI.wrap IntKind.i64 ((SI.lit 65536).sub (SI.wrap IntKind.i64 ((SI.lit 3).mul (SI.var 1))))).sub (SI.lit 2))), true), (SB.lt (SI.var 0) (SI.lit 0), false), (SB.lt (SI.lit 4096) (SI.var 1), false), (SB.lt (SI.var 1) (SI.lit 2), false)] }, { ex := SEx.exit 0, ds := [(SV.int IntKind.i64 (SI.var nmL), SV.int IntKind.i64 (SI.var nmL))], ls := [], pc := [(SB.lt (SI.var nmL) (SI.wrap IntKind.i64 ((SI.wrap IntKind.i64 ((SI.lit 3).mul (SI.var 1))).add (SI.lit 3))), false), (SB.lt (SI.var nmL) (SI.lit 0), false), (SB.lt (SI.wrap IntKind.i64 ((SI.wrap IntKind.i64 ((SI.var 0).add (SI.wrap IntKind.i64 ((SI.lit 3).mul (SI.var 1))))).add (SI.lit 2))) (SI.var 9).nat, true), (SB.lt (SI.var 0) (SI.wrap IntKind.i64 ((SI.wrap IntKind.i64 ((SI.lit 65536).sub (SI.wrap IntKind.i64 ((SI.lit 3).mul (SI.var 1))))).sub (SI.lit 2))), true), (SB.lt (SI.var 0) (SI.lit 0), false), (SB.lt (SI.lit 4096) (SI.var 1), false), (SB.lt (SI.var 1) (SI.lit 2), false)] }]
theorem bodyL : (codeX Try.prog noOrac (2^700) (2^650) 78 6000 0 (loopAt Try.prog 78 5) (frLI Try.prog) pcLI (capLI Try.prog).hp).bind (sumsM nmL (2^700) (2^650) (⟨.normal, frLI Try.prog, (capLI Try.prog).hp, pcLI⟩ :: tgL Try.prog)) = some sumsL := by kernel_rfl
theorem oneL : (loopsAt Try.prog 78 5).length = 1 := by kernel_rfl
theorem stL : diffX (fun v => v.av nmL (nmL + 64)) (capLI Try.prog).fr (frLI Try.prog) = some [(.int .i64 (.lit 0), .int .i64 (.var nmL))] := by kernel_rfl
theorem slL : diffH (fun m => out nmL (nmL + 64) m) (fun b => b.av nmL (nmL + 64)) (capLI Try.prog).hp (capLI Try.prog).hp = some [] := by kernel_rfl
attribute [local irreducible] nmAt in
theorem onL : out (2^700) (2^700 + 2^650) nmL = true := out_nm (s := 5) (j := 0) (by decide +kernel) (by omega)

def OkL (a N n : Int) : Prop := 0 ≤ a ∧ 2 ≤ N ∧ N ≤ 4096 ∧ a + 3 * N + 2 < 65536 ∧ a + 3 * N + 2 < n
/-- The sums that come up do not overflow. -/
theorem okL_wraps {a N n : Int} (h : OkL a N n) : IntKind.i64.wrap (3 * N) = 3 * N ∧ IntKind.i64.wrap (3 * N + 3) = 3 * N + 3 ∧ IntKind.i64.wrap (a + 3 * N) = a + 3 * N ∧ IntKind.i64.wrap (a + 3 * N + 2) = a + 3 * N + 2 ∧ IntKind.i64.wrap (65536 - 3 * N) = 65536 - 3 * N ∧ IntKind.i64.wrap (65536 - 3 * N - 2) = 65536 - 3 * N - 2 ∧
    IntKind.i64.wrap a = a ∧ IntKind.i64.wrap (a + 1) = a + 1 ∧ IntKind.i64.wrap (a + 2) = a + 2 := by
  unfold OkL at h
  refine ⟨wrapS _ ?_ ?_, wrapS _ ?_ ?_, wrapS _ ?_ ?_, wrapS _ ?_ ?_, wrapS _ ?_ ?_, wrapS _ ?_ ?_, wrapS _ ?_ ?_, wrapS _ ?_ ?_, wrapS _ ?_ ?_⟩ <;> omega
theorem pcL_of {ν : Env Gh} (h : OkL (ν.i 0) (ν.i 1) (ν.i 9)) : pcDen ν pcL := by
  obtain ⟨w1, w2, w3, w4, w5, w6, w7, w8, w9⟩ := okL_wraps h
  simp only [pcL, pcDen_cons_iff, pcDen_nil_iff, SB.den, decide_eq_true_eq, decide_eq_false_iff_not]
  simp only [SI.den, w1, w3, w4, w5, w6]
  unfold OkL at h
  exact ⟨by omega, by omega, by omega, by omega, by omega, trivial⟩
theorem okL_of {ν : Env Gh} (h : pcDen ν pcL) : OkL (ν.i 0) (ν.i 1) (ν.i 9) := by
  simp only [pcL, pcDen_cons_iff, pcDen_nil_iff, SB.den, decide_eq_true_eq, decide_eq_false_iff_not] at h
  simp only [SI.den] at h
  obtain ⟨h1, h2, h3, h4, h5, _⟩ := h
  rw [wrapS (3 * ν.i 1) (by omega) (by omega)] at h1 h2
  rw [wrapS (65536 - 3 * ν.i 1) (by omega) (by omega), wrapS (65536 - 3 * ν.i 1 - 2) (by omega) (by omega)] at h2
  rw [wrapS (ν.i 0 + 3 * ν.i 1) (by omega) (by omega), wrapS (ν.i 0 + 3 * ν.i 1 + 2) (by omega) (by omega)] at h1
  unfold OkL
  omega
theorem set_zero (n k : Nat) : (List.replicate n (0 : Int)).set k 0 = List.replicate n 0 := by
  refine List.ext_getElem (by simp) fun j h1 h2 => ?_
  rw [List.getElem_set]
  split <;> simp

def orL (P : Program) : Orac := (noOrac.withCall 42 (initK 124 51)).withLoop 78 5 nmL (capLI P).fr (capLI P).hp (mkM nmL (tgL P) badL)
theorem orL_ok : OOK Try.prog (orL Try.prog) inM := by
  have os : ∀ {m : Nat}, m < 1000 → out nmL (nmL + 64) m = true := fun h => out_small h
  have ob : ∀ {m : Nat}, m < 1000 → out (2^700) (2^700 + 2^650) m = true := fun h => out_big h
  have hpcI : ∀ {ν ν1 : Env Gh} {ρ : Nat → Nat}, OkL (ν.i 0) (ν.i 1) (ν.i 9) → Agree nmL (nmL + 64) ν ν1 ρ ρ → 0 ≤ ν1.i nmL → pcDen ν1 pcLI := by
    intro ν ν1 ρ hb ha h0
    refine pcDen_cons ?_ (pcL_of (by rw [ha.i 0 (os (by omega)), ha.i 1 (os (by omega)), ha.i 9 (os (by omega))]; exact hb))
    simp only [SB.den, decide_eq_false_iff_not]
    simp only [SI.den]
    omega
  refine loopM_ok pr (noOrac_ok (I := inM)) oneL bodyL stL slL (fun ν ν1 => 0 ≤ ν1.i nmL ∧ ν1.i nmL ≤ 3 * ν.i 1 + 3) (fun ν ν1 => (3 * ν.i 1 + 3 - ν1.i nmL).toNat) ?_ ?_ (initK_ok noOrac_ok)
  · intro ν ρ hI hb
    have hok := okL_of (bads_neg hb)
    have ha := set1_agree ν ρ nmL 0
    refine ⟨_, ha, ⟨by rw [set1_self]; omega, by rw [set1_self]; unfold OkL at hok; omega⟩, hpcI hok ha (by rw [set1_self]; omega), fun y hy => ?_, fun y hy => by cases hy⟩
    simp only [List.mem_cons, List.not_mem_nil, or_false] at hy
    subst hy
    simp only [SV.den, SI.den, set1_self]
  · intro s hs ν ρ ν1 ν2 ρ2 hI hb a1 hJ _ a2 hp2
    have hok := okL_of (bads_neg hb)
    obtain ⟨w1, w2, w3, w4, w5, w6, w7, w8, w9⟩ := okL_wraps hok
    obtain ⟨j1, j2⟩ := hJ
    have i0 : ν2.i 0 = ν.i 0 := (a2.i 0 (ob (by omega))).trans (a1.i 0 (os (by omega)))
    have i1 : ν2.i 1 = ν.i 1 := (a2.i 1 (ob (by omega))).trans (a1.i 1 (os (by omega)))
    have i9 : ν2.i 9 = ν.i 9 := (a2.i 9 (ob (by omega))).trans (a1.i 9 (os (by omega)))
    have ek : ν2.i nmL = ν1.i nmL := a2.i nmL onL
    have ha3 : ∀ x, Agree nmL (nmL + 64) ν (set1 ν nmL x) ρ ρ := fun x => set1_agree ν ρ nmL x
    have hok' := hok
    unfold OkL at hok'
    obtain ⟨k1, k2, k3, k4, k5⟩ := hok'
    have norm : ∀ (d : List (SV × SV)) (l : List (SL × SL)), ν1.i nmL < 3 * ν.i 1 + 3 → d = [(.int .i64 (.wrap .i64 (.add (.var nmL) (.lit 1))), .int .i64 (.var nmL))] → (∀ y ∈ l, y.1.den ν2 = List.replicate (ν.i 9).toNat 0 ∧ y.2 = .rep (.var 9) (.lit 0)) →
        ∃ ν3, Agree nmL (nmL + 64) ν ν3 ρ ρ ∧ (0 ≤ ν3.i nmL ∧ ν3.i nmL ≤ 3 * ν.i 1 + 3) ∧ pcDen ν3 pcLI ∧ (3 * ν.i 1 + 3 - ν3.i nmL).toNat < (3 * ν.i 1 + 3 - ν1.i nmL).toNat ∧ (∀ y ∈ d, y.1.den ν2 ρ2 = y.2.den ν3 ρ) ∧ ∀ y ∈ l, y.1.den ν2 = y.2.den ν3 := by
      intro d l hle hd hl
      refine ⟨set1 ν nmL (ν1.i nmL + 1), ha3 _, ⟨by rw [set1_self]; omega, by rw [set1_self]; omega⟩, hpcI hok (ha3 _) (by rw [set1_self]; omega), by rw [set1_self]; omega, fun y hy => ?_, fun y hy => ?_⟩
      · subst hd
        simp only [List.mem_cons, List.not_mem_nil, or_false] at hy
        subst hy
        simp only [SV.den, SI.den, ek, set1_self]
        rw [wrapS _ (by omega) (by omega)]
      · obtain ⟨h1, h2⟩ := hl y hy
        rw [h1, h2]
        simp only [SL.den, SI.den, (ha3 _).i 9 (os (by omega))]
    simp only [sumsL, List.mem_cons, List.not_mem_nil, or_false] at hs
    rcases hs with rfl | rfl | rfl | rfl
    all_goals
      simp only [pcDen_cons_iff, SB.den, decide_eq_true_eq, decide_eq_false_iff_not] at hp2
      simp only [SI.den, i0, i1, i9, ek, w1, w2] at hp2
      first
        | (have w : IntKind.i64.wrap (ν.i 0 + ν1.i nmL) = ν.i 0 + ν1.i nmL := wrapS _ (by omega) (by omega)
           rw [w] at hp2
           exfalso
           omega)
        | (refine norm _ _ (by omega) rfl fun y hy => ?_
           simp only [List.mem_cons, List.not_mem_nil, or_false] at hy
           first
             | exact hy.elim
             | (subst hy
                refine ⟨?_, rfl⟩
                simp only [SL.den, SI.den, i9]
                exact set_zero _ _))
        | (refine ⟨set1 ν nmL (ν1.i nmL), ha3 _, fun t ht he => ?_, fun y hy => ?_, fun y hy => ?_⟩
           · simp only [tgL, List.mem_cons, List.not_mem_nil, or_false] at ht
             subst ht
             exact pcDen_nil _
           · simp only [List.mem_cons, List.not_mem_nil, or_false] at hy
             first
               | exact hy.elim
               | (subst hy
                  simp only [SV.den, SI.den, ek, set1_self])
           · simp only [List.mem_cons, List.not_mem_nil, or_false] at hy)

def runL : Option (List (Bool × SV × PC × SL)) := some [(false, SV.int IntKind.i64 (SI.lit 0), [(SB.lt (SI.wrap IntKind.i64 ((SI.var 0).add (SI.lit 1))) (SI.lit 0), true), (SB.lt (SI.wrap IntKind.i64 (SI.var 0)) (SI.lit 0), true), (SB.lt (SI.wrap IntKind.i64 ((SI.wrap IntKind.i64 ((SI.var 0).add (SI.wrap IntKind.i64 ((SI.lit 3).mul (SI.var 1))))).add (SI.lit 2))) (SI.var 9).nat, true), (SB.lt (SI.var 0) (SI.wrap IntKind.i64 ((SI.wrap IntKind.i64 ((SI.lit 65536).sub (SI.wrap IntKind.i64 ((SI.lit 3).mul (SI.var 1))))).sub (SI.lit 2))), true), (SB.lt (SI.var 0) (SI.lit 0), false), (SB.lt (SI.lit 4096) (SI.var 1), false), (SB.lt (SI.var 1) (SI.lit 2), false)], arL), (false, SV.int IntKind.i64 (SI.lit 0), [(SB.lt (SI.wrap IntKind.i64 ((SI.var 0).add (SI.lit 1))) (SI.var 9).nat, false), (SB.lt (SI.wrap IntKind.i64 ((SI.var 0).add (SI.lit 1))) (SI.lit 0), false), (SB.lt (SI.wrap IntKind.i64 (SI.var 0)) (SI.lit 0), true), (SB.lt (SI.wrap IntKind.i64 ((SI.wrap IntKind.i64 ((SI.var 0).add (SI.wrap IntKind.i64 ((SI.lit 3).mul (SI.var 1))))).add (SI.lit 2))) (SI.var 9).nat, true), (SB.lt (SI.var 0) (SI.wrap IntKind.i64 ((SI.wrap IntKind.i64 ((SI.lit 65536).sub (SI.wrap IntKind.i64 ((SI.lit 3).mul (SI.var 1))))).sub (SI.lit 2))), true), (SB.lt (SI.var 0) (SI.lit 0), false), (SB.lt (SI.lit 4096) (SI.var 1), false), (SB.lt (SI.var 1) (SI.lit 2), false)], arL), (true, SV.tup [], [(SB.lt (SI.wrap IntKind.i64 ((SI.var 0).add (SI.lit 1))) (SI.len (arL)), false), (SB.lt (SI.wrap IntKind.i64 ((SI.var 0).add (SI.lit 1))) (SI.var 9).nat, true), (SB.lt (SI.wrap IntKind.i64 ((SI.var 0).add (SI.lit 1))) (SI.lit 0), false), (SB.lt (SI.wrap IntKind.i64 (SI.var 0)) (SI.lit 0), true), (SB.lt (SI.wrap IntKind.i64 ((SI.wrap IntKind.i64 ((SI.var 0).add (SI.wrap IntKind.i64 ((SI.lit 3).mul (SI.var 1))))).add (SI.lit 2))) (SI.var 9).nat, true), (SB.lt (SI.var 0) (SI.wrap IntKind.i64 ((SI.wrap IntKind.i64 ((SI.lit 65536).sub (SI.wrap IntKind.i64 ((SI.lit 3).mul (SI.var 1))))).sub (SI.lit 2))), true), (SB.lt (SI.var 0) (SI.lit 0), false), (SB.lt (SI.lit 4096) (SI.var 1), false), (SB.lt (SI.var 1) (SI.lit 2), false)], SL.nil), (false, SV.int IntKind.i64 (SI.lit 0), [(SB.lt (SI.wrap IntKind.i64 ((SI.var 0).add (SI.lit 1))) (SI.len (arL)), true), (SB.lt (SI.wrap IntKind.i64 ((SI.var 0).add (SI.lit 1))) (SI.var 9).nat, true), (SB.lt (SI.wrap IntKind.i64 ((SI.var 0).add (SI.lit 1))) (SI.lit 0), false), (SB.lt (SI.wrap IntKind.i64 (SI.var 0)) (SI.lit 0), true), (SB.lt (SI.wrap IntKind.i64 ((SI.wrap IntKind.i64 ((SI.var 0).add (SI.wrap IntKind.i64 ((SI.lit 3).mul (SI.var 1))))).add (SI.lit 2))) (SI.var 9).nat, true), (SB.lt (SI.var 0) (SI.wrap IntKind.i64 ((SI.wrap IntKind.i64 ((SI.lit 65536).sub (SI.wrap IntKind.i64 ((SI.lit 3).mul (SI.var 1))))).sub (SI.lit 2))), true), (SB.lt (SI.var 0) (SI.lit 0), false), (SB.lt (SI.lit 4096) (SI.var 1), false), (SB.lt (SI.var 1) (SI.lit 2), false)], (arL).set (SI.wrap IntKind.i64 ((SI.var 0).add (SI.lit 1))) (SI.lit 1)), (false, SV.int IntKind.i64 (SI.lit 0), [(SB.lt (SI.wrap IntKind.i64 ((SI.var 0).add (SI.lit 1))) (SI.lit 0), true), (SB.lt (SI.wrap IntKind.i64 (SI.var 0)) (SI.var 9).nat, false), (SB.lt (SI.wrap IntKind.i64 (SI.var 0)) (SI.lit 0), false), (SB.lt (SI.wrap IntKind.i64 ((SI.wrap IntKind.i64 ((SI.var 0).add (SI.wrap IntKind.i64 ((SI.lit 3).mul (SI.var 1))))).add (SI.lit 2))) (SI.var 9).nat, true), (SB.lt (SI.var 0) (SI.wrap IntKind.i64 ((SI.wrap IntKind.i64 ((SI.lit 65536).sub (SI.wrap IntKind.i64 ((SI.lit 3).mul (SI.var 1))))).sub (SI.lit 2))), true), (SB.lt (SI.var 0) (SI.lit 0), false), (SB.lt (SI.lit 4096) (SI.var 1), false), (SB.lt (SI.var 1) (SI.lit 2), false)], arL), (false, SV.int IntKind.i64 (SI.lit 0), [(SB.lt (SI.wrap IntKind.i64 ((SI.var 0).add (SI.lit 1))) (SI.var 9).nat, false), (SB.lt (SI.wrap IntKind.i64 ((SI.var 0).add (SI.lit 1))) (SI.lit 0), false), (SB.lt (SI.wrap IntKind.i64 (SI.var 0)) (SI.var 9).nat, false), (SB.lt (SI.wrap IntKind.i64 (SI.var 0)) (SI.lit 0), false), (SB.lt (SI.wrap IntKind.i64 ((SI.wrap IntKind.i64 ((SI.var 0).add (SI.wrap IntKind.i64 ((SI.lit 3).mul (SI.var 1))))).add (SI.lit 2))) (SI.var 9).nat, true), (SB.lt (SI.var 0) (SI.wrap IntKind.i64 ((SI.wrap IntKind.i64 ((SI.lit 65536).sub (SI.wrap IntKind.i64 ((SI.lit 3).mul (SI.var 1))))).sub (SI.lit 2))), true), (SB.lt (SI.var 0) (SI.lit 0), false), (SB.lt (SI.lit 4096) (SI.var 1), false), (SB.lt (SI.var 1) (SI.lit 2), false)], arL), (true, SV.tup [], [(SB.lt (SI.wrap IntKind.i64 ((SI.var 0).add (SI.lit 1))) (SI.len (arL)), false), (SB.lt (SI.wrap IntKind.i64 ((SI.var 0).add (SI.lit 1))) (SI.var 9).nat, true), (SB.lt (SI.wrap IntKind.i64 ((SI.var 0).add (SI.lit 1))) (SI.lit 0), false), (SB.lt (SI.wrap IntKind.i64 (SI.var 0)) (SI.var 9).nat, false), (SB.lt (SI.wrap IntKind.i64 (SI.var 0)) (SI.lit 0), false), (SB.lt (SI.wrap IntKind.i64 ((SI.wrap IntKind.i64 ((SI.var 0).add (SI.wrap IntKind.i64 ((SI.lit 3).mul (SI.var 1))))).add (SI.lit 2))) (SI.var 9).nat, true), (SB.lt (SI.var 0) (SI.wrap IntKind.i64 ((SI.wrap IntKind.i64 ((SI.lit 65536).sub (SI.wrap IntKind.i64 ((SI.lit 3).mul (SI.var 1))))).sub (SI.lit 2))), true), (SB.lt (SI.var 0) (SI.lit 0), false), (SB.lt (SI.lit 4096) (SI.var 1), false), (SB.lt (SI.var 1) (SI.lit 2), false)], SL.nil), (false, SV.int IntKind.i64 (SI.lit 0), [(SB.lt (SI.wrap IntKind.i64 ((SI.var 0).add (SI.lit 1))) (SI.len (arL)), true), (SB.lt (SI.wrap IntKind.i64 ((SI.var 0).add (SI.lit 1))) (SI.var 9).nat, true), (SB.lt (SI.wrap IntKind.i64 ((SI.var 0).add (SI.lit 1))) (SI.lit 0), false), (SB.lt (SI.wrap IntKind.i64 (SI.var 0)) (SI.var 9).nat, false), (SB.lt (SI.wrap IntKind.i64 (SI.var 0)) (SI.lit 0), false), (SB.lt (SI.wrap IntKind.i64 ((SI.wrap IntKind.i64 ((SI.var 0).add (SI.wrap IntKind.i64 ((SI.lit 3).mul (SI.var 1))))).add (SI.lit 2))) (SI.var 9).nat, true), (SB.lt (SI.var 0) (SI.wrap IntKind.i64 ((SI.wrap IntKind.i64 ((SI.lit 65536).sub (SI.wrap IntKind.i64 ((SI.lit 3).mul (SI.var 1))))).sub (SI.lit 2))), true), (SB.lt (SI.var 0) (SI.lit 0), false), (SB.lt (SI.lit 4096) (SI.var 1), false), (SB.lt (SI.var 1) (SI.lit 2), false)], (arL).set (SI.wrap IntKind.i64 ((SI.var 0).add (SI.lit 1))) (SI.lit 1)), (true, SV.tup [], [(SB.lt (SI.wrap IntKind.i64 (SI.var 0)) (SI.len (arL)), false), (SB.lt (SI.wrap IntKind.i64 (SI.var 0)) (SI.var 9).nat, true), (SB.lt (SI.wrap IntKind.i64 (SI.var 0)) (SI.lit 0), false), (SB.lt (SI.wrap IntKind.i64 ((SI.wrap IntKind.i64 ((SI.var 0).add (SI.wrap IntKind.i64 ((SI.lit 3).mul (SI.var 1))))).add (SI.lit 2))) (SI.var 9).nat, true), (SB.lt (SI.var 0) (SI.wrap IntKind.i64 ((SI.wrap IntKind.i64 ((SI.lit 65536).sub (SI.wrap IntKind.i64 ((SI.lit 3).mul (SI.var 1))))).sub (SI.lit 2))), true), (SB.lt (SI.var 0) (SI.lit 0), false), (SB.lt (SI.lit 4096) (SI.var 1), false), (SB.lt (SI.var 1) (SI.lit 2), false)], SL.nil), (false, SV.int IntKind.i64 (SI.lit 0), [(SB.lt (SI.wrap IntKind.i64 ((SI.var 0).add (SI.lit 1))) (SI.lit 0), true), (SB.lt (SI.wrap IntKind.i64 (SI.var 0)) (SI.len (arL)), true), (SB.lt (SI.wrap IntKind.i64 (SI.var 0)) (SI.var 9).nat, true), (SB.lt (SI.wrap IntKind.i64 (SI.var 0)) (SI.lit 0), false), (SB.lt (SI.wrap IntKind.i64 ((SI.wrap IntKind.i64 ((SI.var 0).add (SI.wrap IntKind.i64 ((SI.lit 3).mul (SI.var 1))))).add (SI.lit 2))) (SI.var 9).nat, true), (SB.lt (SI.var 0) (SI.wrap IntKind.i64 ((SI.wrap IntKind.i64 ((SI.lit 65536).sub (SI.wrap IntKind.i64 ((SI.lit 3).mul (SI.var 1))))).sub (SI.lit 2))), true), (SB.lt (SI.var 0) (SI.lit 0), false), (SB.lt (SI.lit 4096) (SI.var 1), false), (SB.lt (SI.var 1) (SI.lit 2), false)], (arL).set (SI.wrap IntKind.i64 (SI.var 0)) (SI.lit 1)), (false, SV.int IntKind.i64 (SI.lit 0), [(SB.lt (SI.wrap IntKind.i64 ((SI.var 0).add (SI.lit 1))) (SI.var 9).nat, false), (SB.lt (SI.wrap IntKind.i64 ((SI.var 0).add (SI.lit 1))) (SI.lit 0), false), (SB.lt (SI.wrap IntKind.i64 (SI.var 0)) (SI.len (arL)), true), (SB.lt (SI.wrap IntKind.i64 (SI.var 0)) (SI.var 9).nat, true), (SB.lt (SI.wrap IntKind.i64 (SI.var 0)) (SI.lit 0), false), (SB.lt (SI.wrap IntKind.i64 ((SI.wrap IntKind.i64 ((SI.var 0).add (SI.wrap IntKind.i64 ((SI.lit 3).mul (SI.var 1))))).add (SI.lit 2))) (SI.var 9).nat, true), (SB.lt (SI.var 0) (SI.wrap IntKind.i64 ((SI.wrap IntKind.i64 ((SI.lit 65536).sub (SI.wrap IntKind.i64 ((SI.lit 3).mul (SI.var 1))))).sub (SI.lit 2))), true), (SB.lt (SI.var 0) (SI.lit 0), false), (SB.lt (SI.lit 4096) (SI.var 1), false), (SB.lt (SI.var 1) (SI.lit 2), false)], (arL).set (SI.wrap IntKind.i64 (SI.var 0)) (SI.lit 1)), (true, SV.tup [], [(SB.lt (SI.wrap IntKind.i64 ((SI.var 0).add (SI.lit 1))) (SI.len (arL)), false), (SB.lt (SI.wrap IntKind.i64 ((SI.var 0).add (SI.lit 1))) (SI.var 9).nat, true), (SB.lt (SI.wrap IntKind.i64 ((SI.var 0).add (SI.lit 1))) (SI.lit 0), false), (SB.lt (SI.wrap IntKind.i64 (SI.var 0)) (SI.len (arL)), true), (SB.lt (SI.wrap IntKind.i64 (SI.var 0)) (SI.var 9).nat, true), (SB.lt (SI.wrap IntKind.i64 (SI.var 0)) (SI.lit 0), false), (SB.lt (SI.wrap IntKind.i64 ((SI.wrap IntKind.i64 ((SI.var 0).add (SI.wrap IntKind.i64 ((SI.lit 3).mul (SI.var 1))))).add (SI.lit 2))) (SI.var 9).nat, true), (SB.lt (SI.var 0) (SI.wrap IntKind.i64 ((SI.wrap IntKind.i64 ((SI.lit 65536).sub (SI.wrap IntKind.i64 ((SI.lit 3).mul (SI.var 1))))).sub (SI.lit 2))), true), (SB.lt (SI.var 0) (SI.lit 0), false), (SB.lt (SI.lit 4096) (SI.var 1), false), (SB.lt (SI.var 1) (SI.lit 2), false)], SL.nil), (false, SV.int IntKind.i64 (SI.lit 0), [(SB.lt (SI.wrap IntKind.i64 ((SI.var 0).add (SI.lit 1))) (SI.len (arL)), true), (SB.lt (SI.wrap IntKind.i64 ((SI.var 0).add (SI.lit 1))) (SI.var 9).nat, true), (SB.lt (SI.wrap IntKind.i64 ((SI.var 0).add (SI.lit 1))) (SI.lit 0), false), (SB.lt (SI.wrap IntKind.i64 (SI.var 0)) (SI.len (arL)), true), (SB.lt (SI.wrap IntKind.i64 (SI.var 0)) (SI.var 9).nat, true), (SB.lt (SI.wrap IntKind.i64 (SI.var 0)) (SI.lit 0), false), (SB.lt (SI.wrap IntKind.i64 ((SI.wrap IntKind.i64 ((SI.var 0).add (SI.wrap IntKind.i64 ((SI.lit 3).mul (SI.var 1))))).add (SI.lit 2))) (SI.var 9).nat, true), (SB.lt (SI.var 0) (SI.wrap IntKind.i64 ((SI.wrap IntKind.i64 ((SI.lit 65536).sub (SI.wrap IntKind.i64 ((SI.lit 3).mul (SI.var 1))))).sub (SI.lit 2))), true), (SB.lt (SI.var 0) (SI.lit 0), false), (SB.lt (SI.lit 4096) (SI.var 1), false), (SB.lt (SI.var 1) (SI.lit 2), false)], ((arL).set (SI.wrap IntKind.i64 (SI.var 0)) (SI.lit 1)).set (SI.wrap IntKind.i64 ((SI.var 0).add (SI.lit 1))) (SI.lit 1)), (true, SV.tup [], [(SB.lt (SI.wrap IntKind.i64 ((SI.var 0).add (SI.lit 2))) (SI.lit 0), true), (SB.lt (SI.wrap IntKind.i64 ((SI.wrap IntKind.i64 ((SI.var 0).add (SI.wrap IntKind.i64 ((SI.lit 3).mul (SI.var 1))))).add (SI.lit 2))) (SI.var 9).nat, true), (SB.lt (SI.var 0) (SI.wrap IntKind.i64 ((SI.wrap IntKind.i64 ((SI.lit 65536).sub (SI.wrap IntKind.i64 ((SI.lit 3).mul (SI.var 1))))).sub (SI.lit 2))), true), (SB.lt (SI.var 0) (SI.lit 0), false), (SB.lt (SI.lit 4096) (SI.var 1), false), (SB.lt (SI.var 1) (SI.lit 2), false)], SL.nil), (true, SV.tup [], [(SB.lt (SI.var 1) (SI.lit 2), true), (SB.lt (SI.wrap IntKind.i64 ((SI.wrap IntKind.i64 ((SI.var 0).add (SI.wrap IntKind.i64 ((SI.lit 3).mul (SI.var 1))))).add (SI.lit 2))) (SI.var 9).nat, true), (SB.lt (SI.var 0) (SI.wrap IntKind.i64 ((SI.wrap IntKind.i64 ((SI.lit 65536).sub (SI.wrap IntKind.i64 ((SI.lit 3).mul (SI.var 1))))).sub (SI.lit 2))), true), (SB.lt (SI.var 0) (SI.lit 0), false), (SB.lt (SI.lit 4096) (SI.var 1), false), (SB.lt (SI.var 1) (SI.lit 2), false)], SL.nil), (true, SV.tup [], [(SB.lt (SI.lit 4096) (SI.var 1), true), (SB.lt (SI.wrap IntKind.i64 ((SI.wrap IntKind.i64 ((SI.var 0).add (SI.wrap IntKind.i64 ((SI.lit 3).mul (SI.var 1))))).add (SI.lit 2))) (SI.var 9).nat, true), (SB.lt (SI.var 0) (SI.wrap IntKind.i64 ((SI.wrap IntKind.i64 ((SI.lit 65536).sub (SI.wrap IntKind.i64 ((SI.lit 3).mul (SI.var 1))))).sub (SI.lit 2))), true), (SB.lt (SI.var 0) (SI.lit 0), false), (SB.lt (SI.lit 4096) (SI.var 1), false), (SB.lt (SI.var 1) (SI.lit 2), false)], SL.nil), (true, SV.tup [], [(SB.lt ((SI.wrap IntKind.i64 ((SI.var 0).add (SI.lit 2))).add (SI.var 1)) (SI.lit 65536), false), (SB.lt (SI.wrap IntKind.i64 ((SI.wrap IntKind.i64 ((SI.var 0).add (SI.wrap IntKind.i64 ((SI.lit 3).mul (SI.var 1))))).add (SI.lit 2))) (SI.var 9).nat, true), (SB.lt (SI.var 0) (SI.wrap IntKind.i64 ((SI.wrap IntKind.i64 ((SI.lit 65536).sub (SI.wrap IntKind.i64 ((SI.lit 3).mul (SI.var 1))))).sub (SI.lit 2))), true), (SB.lt (SI.var 0) (SI.lit 0), false), (SB.lt (SI.lit 4096) (SI.var 1), false), (SB.lt (SI.var 1) (SI.lit 2), false)], SL.nil), (true, SV.tup [], [(SB.lt ((SI.wrap IntKind.i64 ((SI.var 0).add (SI.lit 2))).add (SI.var 1)) (SI.var 9), false), (SB.lt (SI.wrap IntKind.i64 ((SI.wrap IntKind.i64 ((SI.var 0).add (SI.wrap IntKind.i64 ((SI.lit 3).mul (SI.var 1))))).add (SI.lit 2))) (SI.var 9).nat, true), (SB.lt (SI.var 0) (SI.wrap IntKind.i64 ((SI.wrap IntKind.i64 ((SI.lit 65536).sub (SI.wrap IntKind.i64 ((SI.lit 3).mul (SI.var 1))))).sub (SI.lit 2))), true), (SB.lt (SI.var 0) (SI.lit 0), false), (SB.lt (SI.lit 4096) (SI.var 1), false), (SB.lt (SI.var 1) (SI.lit 2), false)], SL.nil), (true, SV.tup [], [(SB.lt (SI.wrap IntKind.i64 ((SI.wrap IntKind.i64 ((SI.var 0).add (SI.wrap IntKind.i64 ((SI.lit 3).mul (SI.var 1))))).add (SI.lit 2))) (SI.var 9).nat, false), (SB.lt (SI.wrap IntKind.i64 ((SI.wrap IntKind.i64 ((SI.var 0).add (SI.wrap IntKind.i64 ((SI.lit 3).mul (SI.var 1))))).add (SI.lit 2))) (SI.var 9).nat, true), (SB.lt (SI.var 0) (SI.wrap IntKind.i64 ((SI.wrap IntKind.i64 ((SI.lit 65536).sub (SI.wrap IntKind.i64 ((SI.lit 3).mul (SI.var 1))))).sub (SI.lit 2))), true), (SB.lt (SI.var 0) (SI.lit 0), false), (SB.lt (SI.lit 4096) (SI.var 1), false), (SB.lt (SI.var 1) (SI.lit 2), false)], SL.nil), (true, SV.tup [], [(SB.lt (SI.var 0) (SI.wrap IntKind.i64 ((SI.wrap IntKind.i64 ((SI.lit 65536).sub (SI.wrap IntKind.i64 ((SI.lit 3).mul (SI.var 1))))).sub (SI.lit 2))), false), (SB.lt (SI.wrap IntKind.i64 ((SI.wrap IntKind.i64 ((SI.var 0).add (SI.wrap IntKind.i64 ((SI.lit 3).mul (SI.var 1))))).add (SI.lit 2))) (SI.var 9).nat, true), (SB.lt (SI.var 0) (SI.wrap IntKind.i64 ((SI.wrap IntKind.i64 ((SI.lit 65536).sub (SI.wrap IntKind.i64 ((SI.lit 3).mul (SI.var 1))))).sub (SI.lit 2))), true), (SB.lt (SI.var 0) (SI.lit 0), false), (SB.lt (SI.lit 4096) (SI.var 1), false), (SB.lt (SI.var 1) (SI.lit 2), false)], SL.nil), (true, SV.tup [], [(SB.lt (SI.var 0) (SI.lit 0), true), (SB.lt (SI.wrap IntKind.i64 ((SI.wrap IntKind.i64 ((SI.var 0).add (SI.wrap IntKind.i64 ((SI.lit 3).mul (SI.var 1))))).add (SI.lit 2))) (SI.var 9).nat, true), (SB.lt (SI.var 0) (SI.wrap IntKind.i64 ((SI.wrap IntKind.i64 ((SI.lit 65536).sub (SI.wrap IntKind.i64 ((SI.lit 3).mul (SI.var 1))))).sub (SI.lit 2))), true), (SB.lt (SI.var 0) (SI.lit 0), false), (SB.lt (SI.lit 4096) (SI.var 1), false), (SB.lt (SI.var 1) (SI.lit 2), false)], SL.nil), (true, SV.tup [], [(SB.lt (SI.lit 4096) (SI.var 1), true), (SB.lt (SI.wrap IntKind.i64 ((SI.wrap IntKind.i64 ((SI.var 0).add (SI.wrap IntKind.i64 ((SI.lit 3).mul (SI.var 1))))).add (SI.lit 2))) (SI.var 9).nat, true), (SB.lt (SI.var 0) (SI.wrap IntKind.i64 ((SI.wrap IntKind.i64 ((SI.lit 65536).sub (SI.wrap IntKind.i64 ((SI.lit 3).mul (SI.var 1))))).sub (SI.lit 2))), true), (SB.lt (SI.var 0) (SI.lit 0), false), (SB.lt (SI.lit 4096) (SI.var 1), false), (SB.lt (SI.var 1) (SI.lit 2), false)], SL.nil), (true, SV.tup [], [(SB.lt (SI.var 1) (SI.lit 2), true), (SB.lt (SI.wrap IntKind.i64 ((SI.wrap IntKind.i64 ((SI.var 0).add (SI.wrap IntKind.i64 ((SI.lit 3).mul (SI.var 1))))).add (SI.lit 2))) (SI.var 9).nat, true), (SB.lt (SI.var 0) (SI.wrap IntKind.i64 ((SI.wrap IntKind.i64 ((SI.lit 65536).sub (SI.wrap IntKind.i64 ((SI.lit 3).mul (SI.var 1))))).sub (SI.lit 2))), true), (SB.lt (SI.var 0) (SI.lit 0), false), (SB.lt (SI.lit 4096) (SI.var 1), false), (SB.lt (SI.var 1) (SI.lit 2), false)], SL.nil)]
theorem run_line : rwOf (some (0, [.sl 1 (.lit 0) (.nat (.var 9)) (.var 7)], 124)) 1 (.var 8) 51 (runX Try.prog (orL Try.prog) 78 argsL pcL hpA) = runL := by kernel_rfl

set_option maxRecDepth 100000 in
theorem line_leaf (x : Bool × SV × PC × SL) (hx : runL.elim False (x ∈ ·)) (ν : Env Gh) (ρ : Nat → Nat) (hI : ν.I = inM) (hok : OkL (ν.i 0) (ν.i 1) (ν.i 9)) (hp : pcDen ν x.2.2.1) : x.1 = false ∧ x.2.1.den ν ρ = .int .i64 0 ∧ x.2.2.2.den ν = qG (ν.i 9) (ν.i 0) (ν.i 1) := by
  obtain ⟨w1, w2, w3, w4, w5, w6, w7, w8, w9⟩ := okL_wraps hok
  simp only [runL, Option.elim_some, List.mem_cons, List.not_mem_nil, or_false] at hx
  unfold OkL at hok
  rcases hx with rfl | rfl | rfl | rfl | rfl | rfl | rfl | rfl | rfl | rfl | rfl | rfl | rfl | rfl | rfl | rfl | rfl | rfl | rfl | rfl | rfl | rfl | rfl
  all_goals
    simp only [pcDen_cons_iff, SB.den, decide_eq_true_eq, decide_eq_false_iff_not] at hp
    simp only [SI.den, arL, arX_den hI, aG_length, List.length_set, SL.den, w1, w3, w4, w5, w6, w7, w8, w9] at hp
    first
      | (exfalso; omega)
      | (refine ⟨rfl, by simp only [SV.den, SI.den], ?_⟩
         simp only [SL.den, arL, arX_den hI, SI.den, w7, w8, w9, qG])

set_option maxRecDepth 100000 in
theorem line_calls (a N : Int) : ZeroC Try.prog 78 124 51 (fun v => [.agg #[.int .i64 a, .int .i64 N], v]) (fun n => OkL a N n) (fun n => qG n a N) :=
  zeroC_of pr orL_ok (vargs := fun a N v => [.agg #[.int .i64 a, .int .i64 N], v]) (ok := fun a N n => OkL a N n) (res := fun a N n => qG n a N) (fun a N n => qG_length _ _ _) (run_line.trans rfl) (fun ν ρ => by simp [denL, SV.den, SI.den, argsL]) (fun ν _ h => pcL_of h) (fun x hx ν ρ hI hok hp => line_leaf x hx ν ρ hI hok hp) a N

def qrX (n a N : SI) : SL := .gl 0 (.app 21 (.var 0) (.var 0) n a N (.lit 0) .nil) (.lit 0) (.lit 0)
theorem qrX_den {ν : Env Gh} (hI : ν.I = inM) (n a N : SI) : (qrX n a N).den ν = qG (n.den ν) (a.den ν) (N.den ν) := by simp [qrX, SL.den, SG.den, hI, inM, ghL]
def lineK (tyM tyR : Nat) (_ : Nat) (args : List SV) (pc : PC) (hp : Heap) : Option (List CLeaf) := match args with
  | [.agg [.int .i64 a, .int .i64 N], .ptr p o] => zeroK tyM tyR p o (fun n => (qrX n a N, [(.lt a (.lit 0), true), (.lt N (.lit 2), true), (.lt (.lit 4096) N, true), (.lt (.add (.add a (.mul (.lit 3) N)) (.lit 2)) (.lit 65536), false), (.lt (.add (.add a (.mul (.lit 3) N)) (.lit 2)) n, false)])) pc hp
  | _ => none
set_option maxRecDepth 100000 in
theorem lineK_ok {O : Orac} (oo : OOK Try.prog O inM) : OOK Try.prog (O.withCall 78 (lineK 124 51)) inM := by
  refine withCall_ok oo ?_
  intro lo args pc hp cs h sz hsz B ν ρ w R hI hpc hw hl
  unfold lineK at h
  split at h
  · rename_i a N p o
    have e : denL ν ρ [SV.agg [.int .i64 a, .int .i64 N], .ptr p o] = (fun v => [Value.agg #[.int .i64 (a.den ν), .int .i64 (N.den ν)], v]) ((SV.ptr p o).den ν ρ) := by simp [denL, SV.den]
    rw [e]
    have hc := line_calls (a.den ν) (N.den ν)
    refine zeroK_ok (vargs := fun v => [Value.agg #[.int .i64 (a.den ν), .int .i64 (N.den ν)], v]) (ok := fun n => OkL (a.den ν) (N.den ν) n) (res := fun n => qG n (a.den ν) (N.den ν)) h hpc hw hl hc (fun n => qG_length _ _ _) (fun n hb => ?_) (fun n => qrX_den hI _ _ _)
    simp only [List.mem_cons, List.not_mem_nil, or_false, forall_eq_or_imp, forall_eq, SB.den, ne_eq, decide_eq_true_eq, decide_eq_false_iff_not] at hb
    simp only [SI.den] at hb
    unfold OkL
    omega
  · cases h
end Go.Proofs.Ytoogepoalbhlhaa
