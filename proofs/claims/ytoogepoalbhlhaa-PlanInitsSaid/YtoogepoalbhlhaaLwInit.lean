/- The call arena.Init, of a memory of zeros, first 2. -/
import Derived.Test.YtoogepoalbhlhaaLwCellsO
import Derived.Test.YtoogepoalbhlhaaSy26
set_option linter.unusedVariables false
set_option linter.unusedSimpArgs false
namespace Go.Proofs.Ytoogepoalbhlhaa
open Go Go.Sy Go.RowKit

def hpA : Heap := [(0, .cells [.sl 1 (.lit 0) (.nat (.var 9)) (.var 7)] 124 true), (1, .row .u64 (.rep (.var 9) (.lit 0)) (.var 8) 51)]
def argsA : List SV := [.agg [.int .i64 (.var 0), .int .i64 (.var 1)], .ptr 0 (.lit 0), .int .i64 (.lit 2)]
def pcA : PC := [(.lt (.var 0) (.nat (.var 9)), true), (.lt (.var 1) (.lit 2), false), (.lt (.wrap .i64 (.add (.var 1) (.lit 1))) (.lit 2), false), (.lt (.wrap .i64 (.add (.var 0) (.var 1))) (.nat (.var 9)), true), (.lt (.var 0) (.wrap .i64 (.sub (.lit 65536) (.var 1))), true), (.lt (.var 0) (.lit 0), false), (.lt (.lit 4096) (.var 1), false), (.lt (.var 1) (.lit 1), false)]
def nmA : Nat := nmAt 13
def capA (P : Program) : Leaf := capN 0 (capAll P noOrac 42 13 argsA pcA hpA)
def arX (n a N i : SI) : SL := .gl 0 (.app 20 (.var 0) (.var 0) n a N i .nil) (.lit 0) (.lit 0)
def arXn : SL := arX (.var 9) (.var 0) (.var 1) (.var nmA)
def frA (P : Program) : List SV := deadUndef ((capA P).fr.set 9 (.int .i64 (.var nmA)))
def hpAI (P : Program) : Heap := setRow (.sl 1 (.lit 0) (.lit 0) (.lit 0)) arXn (capA P).hp
def pcAI : PC := (.lt (.var nmA) (.lit 1), false) :: pcA
def tgA (P : Program) : List Tgt := [⟨.exit 0, frA P, hpAI P, [(.eq (.var nmA) (.wrap .i64 (.add (.var 1) (.lit 1))), true)]⟩]
def badA : PC := pcA.map fun x => (x.1, !x.2)
def sumsA : List Sum := [{ ex := SEx.normal, ds := [(SV.int IntKind.i64 (SI.wrap IntKind.i64 ((SI.var nmA).add (SI.lit 1))), SV.int IntKind.i64 (SI.var nmA))], ls := [(arXn, arXn)], pc := [(SB.lt (SI.wrap IntKind.i64 ((SI.var 0).add (SI.var nmA))) (SI.lit 0), true), (SB.lt (SI.var nmA) (SI.var 1), true), (SB.lt (SI.var nmA) (SI.lit 2), false), (SB.lt (SI.var 1) (SI.var nmA), false)] ++ pcAI }, { ex := SEx.normal, ds := [(SV.int IntKind.i64 (SI.wrap IntKind.i64 ((SI.var nmA).add (SI.lit 1))), SV.int IntKind.i64 (SI.var nmA))], ls := [(arXn, arXn)], pc := [(SB.lt (SI.wrap IntKind.i64 ((SI.var 0).add (SI.var nmA))) (SI.var 9).nat, false), (SB.lt (SI.wrap IntKind.i64 ((SI.var 0).add (SI.var nmA))) (SI.lit 0), false), (SB.lt (SI.var nmA) (SI.var 1), true), (SB.lt (SI.var nmA) (SI.lit 2), false), (SB.lt (SI.var 1) (SI.var nmA), false)] ++ pcAI }, { ex := SEx.bad, ds := [], ls := [], pc := [(SB.lt (SI.wrap IntKind.i64 ((SI.var 0).add (SI.var nmA))) (SI.len (arXn)), false), (SB.lt (SI.wrap IntKind.i64 ((SI.var 0).add (SI.var nmA))) (SI.var 9).nat, true), (SB.lt (SI.wrap IntKind.i64 ((SI.var 0).add (SI.var nmA))) (SI.lit 0), false), (SB.lt (SI.var nmA) (SI.var 1), true), (SB.lt (SI.var nmA) (SI.lit 2), false), (SB.lt (SI.var 1) (SI.var nmA), false)] ++ pcAI }, { ex := SEx.normal, ds := [(SV.int IntKind.i64 (SI.wrap IntKind.i64 ((SI.var nmA).add (SI.lit 1))), SV.int IntKind.i64 (SI.var nmA))], ls := [((arXn).set (SI.wrap IntKind.i64 ((SI.var 0).add (SI.var nmA))) (SI.wrap IntKind.u64 ((SI.wrap IntKind.u64 (SI.var nmA)).add (SI.lit 1))), arXn)], pc := [(SB.lt (SI.wrap IntKind.i64 ((SI.var 0).add (SI.var nmA))) (SI.len (arXn)), true), (SB.lt (SI.wrap IntKind.i64 ((SI.var 0).add (SI.var nmA))) (SI.var 9).nat, true), (SB.lt (SI.wrap IntKind.i64 ((SI.var 0).add (SI.var nmA))) (SI.lit 0), false), (SB.lt (SI.var nmA) (SI.var 1), true), (SB.lt (SI.var nmA) (SI.lit 2), false), (SB.lt (SI.var 1) (SI.var nmA), false)] ++ pcAI }, { ex := SEx.normal, ds := [(SV.int IntKind.i64 (SI.wrap IntKind.i64 ((SI.var nmA).add (SI.lit 1))), SV.int IntKind.i64 (SI.var nmA))], ls := [(arXn, arXn)], pc := [(SB.lt (SI.wrap IntKind.i64 ((SI.var 0).add (SI.var nmA))) (SI.lit 0), true), (SB.lt (SI.var nmA) (SI.var 1), false), (SB.lt (SI.var nmA) (SI.lit 2), false), (SB.lt (SI.var 1) (SI.var nmA), false)] ++ pcAI }, { ex := SEx.normal, ds := [(SV.int IntKind.i64 (SI.wrap IntKind.i64 ((SI.var nmA).add (SI.lit 1))), SV.int IntKind.i64 (SI.var nmA))], ls := [(arXn, arXn)], pc := [(SB.lt (SI.wrap IntKind.i64 ((SI.var 0).add (SI.var nmA))) (SI.var 9).nat, false), (SB.lt (SI.wrap IntKind.i64 ((SI.var 0).add (SI.var nmA))) (SI.lit 0), false), (SB.lt (SI.var nmA) (SI.var 1), false), (SB.lt (SI.var nmA) (SI.lit 2), false), (SB.lt (SI.var 1) (SI.var nmA), false)] ++ pcAI }, { ex := SEx.bad, ds := [], ls := [], pc := [(SB.lt (SI.wrap IntKind.i64 ((SI.var 0).add (SI.var nmA))) (SI.len (arXn)), false), (SB.lt (SI.wrap IntKind.i64 ((SI.var 0).add (SI.var nmA))) (SI.var 9).nat, true), (SB.lt (SI.wrap IntKind.i64 ((SI.var 0).add (SI.var nmA))) (SI.lit 0), false), (SB.lt (SI.var nmA) (SI.var 1), false), (SB.lt (SI.var nmA) (SI.lit 2), false), (SB.lt (SI.var 1) (SI.var nmA), false)] ++ pcAI }, { ex := SEx.normal, ds := [(SV.int IntKind.i64 (SI.wrap IntKind.i64 ((SI.var nmA).add (SI.lit 1))), SV.int IntKind.i64 (SI.var nmA))], ls := [((arXn).set (SI.wrap IntKind.i64 ((SI.var 0).add (SI.var nmA))) (SI.lit 0), arXn)], pc := [(SB.lt (SI.wrap IntKind.i64 ((SI.var 0).add (SI.var nmA))) (SI.len (arXn)), true), (SB.lt (SI.wrap IntKind.i64 ((SI.var 0).add (SI.var nmA))) (SI.var 9).nat, true), (SB.lt (SI.wrap IntKind.i64 ((SI.var 0).add (SI.var nmA))) (SI.lit 0), false), (SB.lt (SI.var nmA) (SI.var 1), false), (SB.lt (SI.var nmA) (SI.lit 2), false), (SB.lt (SI.var 1) (SI.var nmA), false)] ++ pcAI }, { ex := SEx.normal, ds := [(SV.int IntKind.i64 (SI.wrap IntKind.i64 ((SI.var nmA).add (SI.lit 1))), SV.int IntKind.i64 (SI.var nmA))], ls := [(arXn, arXn)], pc := [(SB.lt (SI.wrap IntKind.i64 ((SI.var 0).add (SI.var nmA))) (SI.lit 0), true), (SB.lt (SI.var nmA) (SI.lit 2), true), (SB.lt (SI.var 1) (SI.var nmA), false)] ++ pcAI }, { ex := SEx.normal, ds := [(SV.int IntKind.i64 (SI.wrap IntKind.i64 ((SI.var nmA).add (SI.lit 1))), SV.int IntKind.i64 (SI.var nmA))], ls := [(arXn, arXn)], pc := [(SB.lt (SI.wrap IntKind.i64 ((SI.var 0).add (SI.var nmA))) (SI.var 9).nat, false), (SB.lt (SI.wrap IntKind.i64 ((SI.var 0).add (SI.var nmA))) (SI.lit 0), false), (SB.lt (SI.var nmA) (SI.lit 2), true), (SB.lt (SI.var 1) (SI.var nmA), false)] ++ pcAI }, { ex := SEx.bad, ds := [], ls := [], pc := [(SB.lt (SI.wrap IntKind.i64 ((SI.var 0).add (SI.var nmA))) (SI.len (arXn)), false), (SB.lt (SI.wrap IntKind.i64 ((SI.var 0).add (SI.var nmA))) (SI.var 9).nat, true), (SB.lt (SI.wrap IntKind.i64 ((SI.var 0).add (SI.var nmA))) (SI.lit 0), false), (SB.lt (SI.var nmA) (SI.lit 2), true), (SB.lt (SI.var 1) (SI.var nmA), false)] ++ pcAI }, { ex := SEx.normal, ds := [(SV.int IntKind.i64 (SI.wrap IntKind.i64 ((SI.var nmA).add (SI.lit 1))), SV.int IntKind.i64 (SI.var nmA))], ls := [((arXn).set (SI.wrap IntKind.i64 ((SI.var 0).add (SI.var nmA))) (SI.lit 0), arXn)], pc := [(SB.lt (SI.wrap IntKind.i64 ((SI.var 0).add (SI.var nmA))) (SI.len (arXn)), true), (SB.lt (SI.wrap IntKind.i64 ((SI.var 0).add (SI.var nmA))) (SI.var 9).nat, true), (SB.lt (SI.wrap IntKind.i64 ((SI.var 0).add (SI.var nmA))) (SI.lit 0), false), (SB.lt (SI.var nmA) (SI.lit 2), true), (SB.lt (SI.var 1) (SI.var nmA), false)] ++ pcAI }, { ex := SEx.exit 0, ds := [(SV.int IntKind.i64 (SI.var nmA), SV.int IntKind.i64 (SI.var nmA))], ls := [(arXn, arXn)], pc := [(SB.lt (SI.var 1) (SI.var nmA), true)] ++ pcAI }]
theorem bodyA : (codeX Try.prog noOrac (2^700) (2^650) 42 6000 0 (loopAt Try.prog 42 13) (frA Try.prog) pcAI (hpAI Try.prog)).bind (sumsM nmA (2^700) (2^650) (⟨.normal, frA Try.prog, hpAI Try.prog, pcAI⟩ :: tgA Try.prog)) = some sumsA := by kernel_rfl
theorem oneA : (loopsAt Try.prog 42 13).length = 1 := by kernel_rfl
theorem stA : diffX (fun v => v.av nmA (nmA + 64)) (capA Try.prog).fr (frA Try.prog) = some [(.int .i64 (.lit 1), .int .i64 (.var nmA))] := by kernel_rfl
theorem slA : diffH (fun m => out nmA (nmA + 64) m) (fun b => b.av nmA (nmA + 64)) (capA Try.prog).hp (hpAI Try.prog) = some [(.set (.rep (.var 9) (.lit 0)) (.var 0) (.lit 2), arXn)] := by kernel_rfl
attribute [local irreducible] nmAt in
theorem onA : out (2^700) (2^700 + 2^650) nmA = true := out_nm (s := 13) (j := 0) (by decide +kernel) (by omega)
theorem arX_den {ν : Env Gh} (hI : ν.I = inM) (n a N i : SI) : (arX n a N i).den ν = aG (n.den ν) (a.den ν) (N.den ν) (i.den ν) := by simp [arX, SL.den, SG.den, hI, inM, ghL]
theorem wrapU (x : Int) (h1 : 0 ≤ x) (h2 : x ≤ 18446744073709551615) : IntKind.u64.wrap x = x := by
  rw [IntKind.wrap_u64]; omega

/-- What the path says of a place, a number of nodes, and a size. -/
def OkA (a N n : Int) : Prop := 0 ≤ a ∧ 2 ≤ N ∧ N ≤ 4096 ∧ a + N < 65536 ∧ a + N < n
theorem pcA_iff (ν : Env Gh) : pcDen ν pcA ↔ OkA (ν.i 0) (ν.i 1) (ν.i 9) := by
  have key : OkA (ν.i 0) (ν.i 1) (ν.i 9) ↔ (ν.i 0 < ((ν.i 9).toNat : Int) ∧ ¬ ν.i 1 < 2 ∧ ¬ IntKind.i64.wrap (ν.i 1 + 1) < 2 ∧ IntKind.i64.wrap (ν.i 0 + ν.i 1) < ((ν.i 9).toNat : Int) ∧ ν.i 0 < IntKind.i64.wrap (65536 - ν.i 1) ∧ ¬ ν.i 0 < 0 ∧ ¬ 4096 < ν.i 1 ∧ ¬ ν.i 1 < 1) := by
    unfold OkA
    constructor
    · rintro ⟨h1, h2, h3, h4, h5⟩
      rw [wrapS (ν.i 1 + 1) (by omega) (by omega), wrapS (ν.i 0 + ν.i 1) (by omega) (by omega), wrapS (65536 - ν.i 1) (by omega) (by omega)]
      omega
    · rintro ⟨h1, h2, h3, h4, h5, h6, h7, h8⟩
      rw [wrapS (65536 - ν.i 1) (by omega) (by omega)] at h5
      rw [wrapS (ν.i 0 + ν.i 1) (by omega) (by omega)] at h4
      omega
  rw [key]
  simp only [pcA, pcDen_cons_iff, pcDen_nil_iff, SB.den, decide_eq_true_eq, decide_eq_false_iff_not]
  simp only [SI.den, and_true]

theorem bads_neg {ν : Env Gh} {p : PC} (h : ∀ x ∈ p.map (fun x : SB × Bool => (x.1, !x.2)), x.1.den ν ≠ x.2) : pcDen ν p := fun c b hm => by
  have := h (c, !b) (List.mem_map.2 ⟨(c, b), hm, rfl⟩)
  simpa using this

theorem orA_ok : OOK Try.prog (noOrac.withLoop 42 13 nmA (capA Try.prog).fr (capA Try.prog).hp (mkM nmA (tgA Try.prog) badA)) inM := by
  have os : ∀ {m : Nat}, m < 1000 → out nmA (nmA + 64) m = true := fun h => out_small h
  have ob : ∀ {m : Nat}, m < 1000 → out (2^700) (2^700 + 2^650) m = true := fun h => out_big h
  have hpcI : ∀ {ν ν1 : Env Gh} {ρ : Nat → Nat}, OkA (ν.i 0) (ν.i 1) (ν.i 9) → Agree nmA (nmA + 64) ν ν1 ρ ρ → 1 ≤ ν1.i nmA → pcDen ν1 pcAI := by
    intro ν ν1 ρ hb ha h0
    refine pcDen_cons ?_ ((pcA_iff ν1).2 (by rw [ha.i 0 (os (by omega)), ha.i 1 (os (by omega)), ha.i 9 (os (by omega))]; exact hb))
    simp only [SB.den, decide_eq_false_iff_not]
    simp only [SI.den]
    omega
  refine loopM_ok pr (noOrac_ok (I := inM)) oneA bodyA stA slA (fun ν ν1 => 1 ≤ ν1.i nmA ∧ ν1.i nmA ≤ ν.i 1 + 1) (fun ν ν1 => (ν.i 1 + 1 - ν1.i nmA).toNat) ?_ ?_ noOrac_ok
  · intro ν ρ hI hb
    have hok := (pcA_iff ν).1 (bads_neg hb)
    have ha := set1_agree ν ρ nmA 1
    have hI1 : (set1 ν nmA 1).I = inM := hI
    refine ⟨_, ha, ⟨by rw [set1_self]; omega, by rw [set1_self]; unfold OkA at hok; omega⟩, hpcI hok ha (by rw [set1_self]; omega), fun y hy => ?_, fun y hy => ?_⟩
    · simp only [List.mem_cons, List.not_mem_nil, or_false] at hy
      subst hy
      simp only [SV.den, SI.den, set1_self]
    · simp only [List.mem_cons, List.not_mem_nil, or_false] at hy
      subst hy
      simp only [arXn, arX_den hI1, SL.den, SI.den, set1_self, ha.i 0 (os (by omega)), ha.i 1 (os (by omega)), ha.i 9 (os (by omega))]
      exact aG_start (by unfold OkA at hok; omega) (by omega)
  · intro s hs ν ρ ν1 ν2 ρ2 hI hb a1 hJ _ a2 hp2
    have hok := (pcA_iff ν).1 (bads_neg hb)
    obtain ⟨j1, j2⟩ := hJ
    have i0 : ν2.i 0 = ν.i 0 := (a2.i 0 (ob (by omega))).trans (a1.i 0 (os (by omega)))
    have i1 : ν2.i 1 = ν.i 1 := (a2.i 1 (ob (by omega))).trans (a1.i 1 (os (by omega)))
    have i9 : ν2.i 9 = ν.i 9 := (a2.i 9 (ob (by omega))).trans (a1.i 9 (os (by omega)))
    have ek : ν2.i nmA = ν1.i nmA := a2.i nmA onA
    have hI2 : ν2.I = inM := a2.I.trans (a1.I.trans hI)
    have ha3 : ∀ x, Agree nmA (nmA + 64) ν (set1 ν nmA x) ρ ρ := fun x => set1_agree ν ρ nmA x
    have hI3 : ∀ x, (set1 ν nmA x).I = inM := fun x => hI
    have hok' := hok
    unfold OkA at hok'
    obtain ⟨k1, k2, k3, k4, k5⟩ := hok'
    have norm : ∀ (d : List (SV × SV)) (l : List (SL × SL)), ν1.i nmA ≤ ν.i 1 → d = [(.int .i64 (.wrap .i64 (.add (.var nmA) (.lit 1))), .int .i64 (.var nmA))] → (∀ y ∈ l, y.1.den ν2 = aG (ν.i 9) (ν.i 0) (ν.i 1) (ν1.i nmA + 1) ∧ y.2 = arXn) →
        ∃ ν3, Agree nmA (nmA + 64) ν ν3 ρ ρ ∧ (1 ≤ ν3.i nmA ∧ ν3.i nmA ≤ ν.i 1 + 1) ∧ pcDen ν3 pcAI ∧ (ν.i 1 + 1 - ν3.i nmA).toNat < (ν.i 1 + 1 - ν1.i nmA).toNat ∧ (∀ y ∈ d, y.1.den ν2 ρ2 = y.2.den ν3 ρ) ∧ ∀ y ∈ l, y.1.den ν2 = y.2.den ν3 := by
      intro d l hle hd hl
      refine ⟨set1 ν nmA (ν1.i nmA + 1), ha3 _, ⟨by rw [set1_self]; omega, by rw [set1_self]; omega⟩, hpcI hok (ha3 _) (by rw [set1_self]; omega), by rw [set1_self]; omega, fun y hy => ?_, fun y hy => ?_⟩
      · subst hd
        simp only [List.mem_cons, List.not_mem_nil, or_false] at hy
        subst hy
        simp only [SV.den, SI.den, ek, set1_self]
        rw [wrapS _ (by omega) (by omega)]
      · obtain ⟨h1, h2⟩ := hl y hy
        rw [h1, h2]
        simp only [arXn, arX_den (hI3 _), SI.den, set1_self, (ha3 _).i 0 (os (by omega)), (ha3 _).i 1 (os (by omega)), (ha3 _).i 9 (os (by omega))]
    have hset : ∀ v, v = (if 2 ≤ ν1.i nmA ∧ ν1.i nmA < ν.i 1 then ν1.i nmA + 1 else 0) → (aG (ν.i 9) (ν.i 0) (ν.i 1) (ν1.i nmA)).set (ν.i 0 + ν1.i nmA).toNat v = aG (ν.i 9) (ν.i 0) (ν.i 1) (ν1.i nmA + 1) := fun v hv => aG_set k1 j1 hv
    simp only [sumsA, List.mem_cons, List.not_mem_nil, or_false] at hs
    rcases hs with rfl | rfl | rfl | rfl | rfl | rfl | rfl | rfl | rfl | rfl | rfl | rfl | rfl
    all_goals
      replace hp2 := hp2
      simp only [List.cons_append, List.nil_append, pcDen_cons_iff, SB.den, decide_eq_true_eq, decide_eq_false_iff_not] at hp2
      simp only [SI.den, arXn, arX_den hI2, i0, i1, i9, ek, aG_length] at hp2
      first
        | (have w : IntKind.i64.wrap (ν.i 0 + ν1.i nmA) = ν.i 0 + ν1.i nmA := wrapS _ (by omega) (by omega)
           rw [w] at hp2
           exfalso
           omega)
        | (exfalso; omega)
        | (have w : IntKind.i64.wrap (ν.i 0 + ν1.i nmA) = ν.i 0 + ν1.i nmA := wrapS _ (by omega) (by omega)
           refine norm _ _ (by omega) rfl fun y hy => ?_
           simp only [List.mem_cons, List.not_mem_nil, or_false] at hy
           subst hy
           refine ⟨?_, rfl⟩
           simp only [SL.den, arXn, arX_den hI2, SI.den, i0, i1, i9, ek, w]
           refine hset _ ?_
           first
             | (rw [if_pos (by omega), wrapU (ν1.i nmA) (by omega) (by omega), wrapU _ (by omega) (by omega)]; done)
             | (rw [if_neg (by omega)]; done))
        | (refine ⟨set1 ν nmA (ν1.i nmA), ha3 _, fun t ht he => ?_, fun y hy => ?_, fun y hy => ?_⟩
           · simp only [tgA, List.mem_cons, List.not_mem_nil, or_false] at ht
             subst ht
             refine pcDen_one ?_
             simp only [SB.den, beq_iff_eq]
             simp only [SI.den, set1_self, (ha3 _).i 1 (os (by omega))]
             rw [wrapS _ (by omega) (by omega)]
             omega
           · simp only [List.mem_cons, List.not_mem_nil, or_false] at hy
             subst hy
             simp only [SV.den, SI.den, ek, set1_self]
           · simp only [List.mem_cons, List.not_mem_nil, or_false] at hy
             subst hy
             simp only [arXn, arX_den hI2, arX_den (hI3 _), SI.den, i0, i1, i9, ek, set1_self, (ha3 _).i 0 (os (by omega)), (ha3 _).i 1 (os (by omega)), (ha3 _).i 9 (os (by omega))])

def orA (P : Program) : Orac := noOrac.withLoop 42 13 nmA (capA P).fr (capA P).hp (mkM nmA (tgA P) badA)
def runA : Option (List (Bool × SV × PC × SL)) := some ((false, .int .i64 (.lit 0), (.eq (.var nmA) (.wrap .i64 (.add (.var 1) (.lit 1))), true) :: pcA, arXn) :: badA.map fun c => (true, .tup [], c :: pcA, .nil))
theorem run_init : rwOf (some (0, [.sl 1 (.lit 0) (.nat (.var 9)) (.var 7)], 124)) 1 (.var 8) 51 (runX Try.prog (orA Try.prog) 42 argsA pcA hpA) = runA := by kernel_rfl

/-- A memory of zeros is turned into this one. -/
def ZeroC (P : Program) (g tyM tyR : Nat) (args : Value → List Value) (ok : Int → Prop) (res : Int → List Int) : Prop := ∀ (w : World) (p q cap : Nat) (n : Int) (rest : List Value), p ≠ q → ok n →
  w.heap[p]? = some (.cells #[.slice (some ⟨q, 0, none⟩) n.toNat cap] tyM (0, 0)) → w.heap[q]? = some (rowObj (List.replicate n.toNat 0) rest tyR) → n.toNat + rest.length ≤ 9223372036854775807 →
  Calls P g (args (.pointer (some ⟨p, 0, none⟩))).toArray w fun e w' => e = .returned (.int .i64 0) ∧ ∃ rest' : List Value, rest'.length = rest.length ∧ Turned q (rowObj (res n) rest' tyR) w w'

def int10 (a N c s n : Int) : Nat → Int | 0 => a | 1 => N | 7 => c | 8 => s | _ => n

theorem HW.zero {w : World} {p q cap : Nat} {n : Int} {rest : List Value} {tyM tyR : Nat} (a N : Int) (hpq : p ≠ q) (h1 : w.heap[p]? = some (.cells #[.slice (some ⟨q, 0, none⟩) n.toNat cap] tyM (0, 0))) (h2 : w.heap[q]? = some (rowObj (List.replicate n.toNat 0) rest tyR)) (hm : n.toNat + rest.length ≤ 9223372036854775807) :
    HW (base2 w p q) (envG (int10 a N cap (n.toNat + rest.length : Nat) n) (fun _ => [])) (nat2 p q) [(0, .cells [.sl 1 (.lit 0) (.nat (.var 9)) (.var 7)] tyM true), (1, .row .u64 (.rep (.var 9) (.lit 0)) (.var 8) tyR)] w := by
  refine ⟨rfl, rfl, rfl, Nat.le_refl _, fun _ _ => rfl, by simp, fun n j => j = nat2 p q n, fun n bk hn => ?_, fun n bk j hn hj => ?_, fun n bk m bk' j hn hn' hj hj' => ?_⟩
  · simp only [List.mem_cons, List.not_mem_nil, or_false, Prod.mk.injEq] at hn
    rcases hn with ⟨rfl, rfl⟩ | ⟨rfl, rfl⟩
    · refine ⟨?_, fun j => Iff.rfl⟩
      show w.heap[p]? = _
      rw [h1]
      have e : (max n 0).toNat = n.toNat := by omega
      simp [denL, SV.den, SI.den, envG, int10, nat2, e]
    · refine ⟨⟨rest, ?_, ?_, ?_⟩, fun j => Iff.rfl⟩
      · show w.heap[q]? = _
        rw [h2]
        simp [rowObj, SL.den, SI.den, envG, int10]
      · simp [SL.den, SI.den, envG, int10]
      · show ((n.toNat + rest.length : Nat) : Int) ≤ _
        omega
  · simp only [List.mem_cons, List.not_mem_nil, or_false, Prod.mk.injEq] at hn
    subst hj
    rcases hn with ⟨rfl, _⟩ | ⟨rfl, _⟩
    · exact .inr (.inl rfl)
    · exact .inr (.inr rfl)
  · simp only [List.mem_cons, List.not_mem_nil, or_false, Prod.mk.injEq] at hn hn'
    subst hj
    rcases hn with ⟨rfl, _⟩ | ⟨rfl, _⟩ <;> rcases hn' with ⟨rfl, _⟩ | ⟨rfl, _⟩
    · rfl
    · exact absurd hj' hpq
    · exact absurd hj'.symm hpq
    · rfl

theorem zeroC_of {P : Program} (pr : PR P) {O : Orac} (oo : OOK P O inM) {g tyM tyR : Nat} {args : List SV} {pc : PC} {l : List (Bool × SV × PC × SL)} {vargs : Int → Int → Value → List Value} {ok : Int → Int → Int → Prop} {res : Int → Int → Int → List Int}
    (hlen : ∀ a N n, (res a N n).length = n.toNat)
    (hrun : rwOf (some (0, [.sl 1 (.lit 0) (.nat (.var 9)) (.var 7)], tyM)) 1 (.var 8) tyR (runX P O g args pc [(0, .cells [.sl 1 (.lit 0) (.nat (.var 9)) (.var 7)] tyM true), (1, .row .u64 (.rep (.var 9) (.lit 0)) (.var 8) tyR)]) = some l)
    (hargs : ∀ (ν : Env Gh) (ρ : Nat → Nat), denL ν ρ args = vargs (ν.i 0) (ν.i 1) (.pointer (some ⟨ρ 0, 0, none⟩)))
    (hpc : ∀ ν : Env Gh, ν.I = inM → ok (ν.i 0) (ν.i 1) (ν.i 9) → pcDen ν pc)
    (hleaf : ∀ x ∈ l, ∀ (ν : Env Gh) (ρ : Nat → Nat), ν.I = inM → ok (ν.i 0) (ν.i 1) (ν.i 9) → pcDen ν x.2.2.1 → x.1 = false ∧ x.2.1.den ν ρ = .int .i64 0 ∧ x.2.2.2.den ν = res (ν.i 0) (ν.i 1) (ν.i 9)) (a N : Int) :
    ZeroC P g tyM tyR (vargs a N) (ok a N) (res a N) := by
  intro w p q cap n rest hpq hok h1 h2 hm
  have hw := HW.zero a N hpq h1 h2 hm
  have e := hargs (envG (int10 a N cap (n.toNat + rest.length : Nat) n) (fun _ => [])) (nat2 p q)
  have e' : denL (envG (int10 a N cap (n.toNat + rest.length : Nat) n) (fun _ => [])) (nat2 p q) args = vargs a N (.pointer (some ⟨p, 0, none⟩)) := e
  rw [← e']
  refine rw_calls pr oo hrun w p q _ _ _ rfl (hpc _ rfl hok) hw (fun ρ' hr => hr 1 (out_LO (by omega))) ?_
  intro x hx ν' ρ' hag hp
  have i0 : ν'.i 0 = a := hag.i 0 (out_LO (by omega))
  have i1 : ν'.i 1 = N := hag.i 1 (out_LO (by omega))
  have i7 : ν'.i 7 = cap := hag.i 7 (out_LO (by omega))
  have i8 : ν'.i 8 = (n.toNat + rest.length : Nat) := hag.i 8 (out_LO (by omega))
  have i9 : ν'.i 9 = n := hag.i 9 (out_LO (by omega))
  have r0 : ρ' 0 = p := hag.r 0 (out_LO (by omega))
  have r1 : ρ' 1 = q := hag.r 1 (out_LO (by omega))
  have hI : ν'.I = inM := hag.I
  obtain ⟨z1, z2, z3⟩ := hleaf x hx ν' ρ' hI (by rw [i0, i1, i9]; exact hok) hp
  refine ⟨z1, fun w' rest' t1 t2 t3 t4 t5 tk t6 t7 => ?_⟩
  rw [i0, i1, i9] at z3
  rw [z3] at t6 t7
  rw [z2]
  simp only [SI.den, i8, hlen] at t7
  refine ⟨rfl, rest', by omega, ⟨t1, t2, t3, t4, fun j hj hq => ?_, t6⟩⟩
  by_cases h : j = p
  · subst h
    rw [h1, ← r0, tk _ _ _ rfl]
    have e : (max n 0).toNat = n.toNat := by omega
    simp [denL, SV.den, SI.den, r1, i7, i9, e]
  · exact t5 j hj h hq

/-- Such a contract as an oracle. -/
def zeroK (tyM tyR p : Nat) (o : SI) (mk : SI → SL × PC) (pc : PC) (hp : Heap) : Option (List CLeaf) := match hget p hp with
  | some (.cells [.sl q o' n _] ty true) => if o.beq (.lit 0) && o'.beq (.lit 0) && Nat.beq ty tyM then (match hget q hp with
    | some (.row k (.rep n' (.lit 0)) cp ty2) => if kBeq k .u64 && Nat.beq ty2 tyR && (n.beq n' || n.beq (SI.mkNat n')) then some (⟨false, .int .i64 (.lit 0), pc, hset q (.row .u64 (mk n').1 cp ty2) hp⟩ :: (mk n').2.map (bad1 pc)) else none
    | _ => none) else none
  | _ => none
theorem zeroK_ok {P : Program} {tyM tyR p : Nat} {o : SI} {mk : SI → SL × PC} {pc : PC} {hp : Heap} {cs : List CLeaf} (h : zeroK tyM tyR p o mk pc hp = some cs) {g : Nat} {vargs : Value → List Value} {ok : Int → Prop} {res : Int → List Int} {lo sz : Nat} {B : Base} {ν : Env Gh} {ρ : Nat → Nat} {w : World} {R : Ending → World → Prop} (hpc : pcDen ν pc) (hw : HW B ν ρ hp w)
    (hl : ∀ c ∈ cs, ∀ ν' ρ' w', Agree lo (lo + sz) ν ν' ρ ρ' → pcDen ν' c.pc → c.bad = false ∧ (HW B ν' ρ' c.hp w' → R (.returned (c.v.den ν' ρ')) w'))
    (hc : ZeroC P g tyM tyR vargs ok res) (hlen : ∀ n, (res n).length = n.toNat) (hmk : ∀ n, (∀ x ∈ (mk n).2, x.1.den ν ≠ x.2) → ok (n.den ν)) (hres : ∀ n, (mk n).1.den ν = res (n.den ν)) :
    Calls P g (vargs ((SV.ptr p o).den ν ρ)).toArray w R := by
  unfold zeroK at h
  split at h
  · rename_i q o' n cap ty hg
    split at h
    · rename_i hk
      simp only [Bool.and_eq_true] at hk
      have e1 := SI.beq_eq hk.1.1
      have e2 := SI.beq_eq hk.1.2
      have e3 := Nat.eq_of_beq_eq_true hk.2
      subst e1 e2 e3
      split at h
      · rename_i k n' cp ty2 hq
        split at h
        · rename_i hk2
          simp only [Bool.and_eq_true, Bool.or_eq_true] at hk2
          have e4 := kBeq_eq hk2.1.1
          have e5 := Nat.eq_of_beq_eq_true hk2.1.2
          subst e4 e5
          cases h
          have hn : (n.den ν).toNat = (n'.den ν).toNat := by
            rcases hk2.2 with e | e
            · rw [SI.beq_eq e]
            · rw [SI.beq_eq e, SI.mkNat_den]; omega
          have hb := bads_ok hpc hl (bs := (mk n').2) (fun x hx => List.mem_cons_of_mem _ (List.mem_map.2 ⟨x, hx, rfl⟩))
          have hok := hmk n' hb
          obtain ⟨r1, h1, h2⟩ := hw.row (hget_mem hg)
          rw [h2 rfl] at h1
          obtain ⟨rest, q1, q2, q3⟩ := hw.ints (hget_mem hq)
          have hne : ρ p ≠ ρ q := fun e => by
            obtain ⟨F, f1, f2, f3⟩ := hw.foot
            have a1 := (BlkDen.single (b := .cells [.sl q (.lit 0) n cap] ty true) trivial (f1 _ _ (hget_mem hg)) (ρ p)).2 rfl
            have a2 := (BlkDen.single (b := .row .u64 (.rep n' (.lit 0)) cp ty2) trivial (f1 _ _ (hget_mem hq)) (ρ q)).2 rfl
            have := f3 _ _ _ _ _ (hget_mem hg) (hget_mem hq) a1 (e ▸ a2)
            subst this
            rw [hg] at hq
            cases hq
          have hcl := hc w (ρ p) (ρ q) (cap.den ν).toNat (n'.den ν) rest hne hok (by rw [h1, ← hn]; simp [denL, SV.den, SI.den]) (by rw [q1]; simp [rowObj, SL.den, SI.den]) (by simp [SL.den, SI.den] at q2; omega)
          have ep : (SV.ptr p (.lit 0)).den ν ρ = .pointer (some ⟨ρ p, 0, none⟩) := by simp [SV.den, SI.den]
          rw [ep]
          refine hcl.mono fun e w' ⟨he, rest', hr, ht⟩ => ?_
          subst he
          have hm := hl _ (List.mem_cons_self ..) ν ρ w' (Agree.refl _ _ _ _) hpc
          have := hm.2 (hw.turned (b := .row .u64 (.rep n' (.lit 0)) cp ty2) trivial (hget_mem hq) ht (by
            simp only [BlkDen, hres]
            refine ⟨⟨rest', ht.new, ?_, q3⟩, fun _ => trivial⟩
            rw [q2, hlen, hr]
            simp [SL.den, SI.den]))
          simpa only [SV.den, SI.den] using this
        · cases h
      · cases h
    · cases h
  · cases h

set_option maxRecDepth 100000 in
theorem init_calls (a N : Int) : ZeroC Try.prog 42 124 51 (fun v => [.agg #[.int .i64 a, .int .i64 N], v, .int .i64 2]) (fun n => OkA a N n) (fun n => aG n a N (N + 1)) := by
  refine zeroC_of pr orA_ok (vargs := fun a N v => [.agg #[.int .i64 a, .int .i64 N], v, .int .i64 2]) (ok := fun a N n => OkA a N n) (res := fun a N n => aG n a N (N + 1)) (fun a N n => aG_length _ _ _ _) (run_init.trans rfl) (fun ν ρ => by simp [denL, SV.den, SI.den, argsA]) (fun ν _ h => (pcA_iff ν).2 h) ?_ a N
  intro x hx ν ρ hI hok hp
  have hok' := hok
  unfold OkA at hok'
  refine Or.elim (List.mem_cons.1 hx) (fun e => ?_) (fun hx => ?_)
  · subst e
    refine ⟨rfl, by simp [SV.den, SI.den], ?_⟩
    simp only [pcDen_cons_iff, SB.den, beq_iff_eq] at hp
    simp only [SI.den] at hp
    simp only [arXn, arX_den hI, SI.den]
    rw [hp.1, wrapS _ (by omega) (by omega)]
  · obtain ⟨c, hc, rfl⟩ := List.mem_map.1 hx
    obtain ⟨d, hd, rfl⟩ := List.mem_map.1 hc
    have h1 := hp d.1 (!d.2) (by simp)
    have h2 := hp d.1 d.2 (List.mem_cons_of_mem _ hd)
    rw [h1] at h2
    simp at h2

def initK (tyM tyR : Nat) (_ : Nat) (args : List SV) (pc : PC) (hp : Heap) : Option (List CLeaf) := match args with
  | [.agg [.int .i64 a, .int .i64 N], .ptr p o, .int .i64 (.lit 2)] => zeroK tyM tyR p o (fun n => (arX n a N (.add N (.lit 1)), [(.lt a (.lit 0), true), (.lt N (.lit 2), true), (.lt (.lit 4096) N, true), (.lt (.add a N) (.lit 65536), false), (.lt (.add a N) n, false)])) pc hp
  | _ => none
set_option maxRecDepth 100000 in
theorem initK_ok {O : Orac} (oo : OOK Try.prog O inM) : OOK Try.prog (O.withCall 42 (initK 124 51)) inM := by
  refine withCall_ok oo ?_
  intro lo args pc hp cs h sz hsz B ν ρ w R hI hpc hw hl
  unfold initK at h
  split at h
  · rename_i a N p o
    have e : denL ν ρ [SV.agg [.int .i64 a, .int .i64 N], .ptr p o, .int .i64 (.lit 2)] = (fun v => [Value.agg #[.int .i64 (a.den ν), .int .i64 (N.den ν)], v, .int .i64 2]) ((SV.ptr p o).den ν ρ) := by simp [denL, SV.den, SI.den]
    rw [e]
    have hc := init_calls (a.den ν) (N.den ν)
    refine zeroK_ok (vargs := fun v => [Value.agg #[.int .i64 (a.den ν), .int .i64 (N.den ν)], v, .int .i64 2]) (ok := fun n => OkA (a.den ν) (N.den ν) n) (res := fun n => aG n (a.den ν) (N.den ν) (N.den ν + 1)) h hpc hw hl hc (fun n => aG_length _ _ _ _) (fun n hb => ?_) (fun n => by simp only [arX_den hI, SI.den])
    simp only [List.mem_cons, List.not_mem_nil, or_false, forall_eq_or_imp, forall_eq, SB.den, ne_eq, decide_eq_true_eq, decide_eq_false_iff_not] at hb
    simp only [SI.den] at hb
    unfold OkA
    omega
  · cases h
end Go.Proofs.Ytoogepoalbhlhaa
