/- The call coachyardref06.Init, first 2: a new list. -/
import Derived.Test.YtoogepoalbhlhaaLwLine
import Derived.Test.YtoogepoalbhlhaaSy27
set_option linter.unusedVariables false
set_option linter.unusedSimpArgs false
namespace Go.Proofs.Ytoogepoalbhlhaa
open Go Go.Sy Go.RowKit

def args6 : List SV := [.int .i64 (.var 1), .int .i64 (.lit 2)]
def n6 : SI := .wrap .i64 (.add (.var 1) (.lit 1))
def pc6 : PC := [(.lt (.lit 0) (.nat n6), true), (.lt (.var 1) (.lit 2), false), (.lt n6 (.lit 1073741824), true), (.lt n6 (.lit 0), false)]
def nm6 : Nat := nmAt 5
def cap6 (P : Program) : Leaf := capN 0 (capAll P noOrac 49 5 args6 pc6 [])
def fr6 (P : Program) : List SV := deadUndef ((cap6 P).fr.set 6 (.int .i64 (.var nm6)))
def ar6 : SL := arX n6 (.lit 0) (.var 1) (.var nm6)
def hp6 (P : Program) : Heap := setRow (fget (cap6 P).fr 5) ar6 (cap6 P).hp
def pc6I : PC := (.lt (.var nm6) (.lit 2), false) :: pc6
def tg6 (P : Program) : List Tgt := [⟨.exit 0, fr6 P, hp6 P, [(.eq (.var nm6) (.var 1), true)]⟩]
def pc6B : PC := (.lt (.lit 4096) (.var 1), false) :: pc6
def bad6 : PC := pc6B.map fun x => (x.1, !x.2)
def or6 (P : Program) : Orac := noOrac.withLoop 49 5 nm6 (cap6 P).fr (cap6 P).hp (mkM nm6 (tg6 P) bad6)
def sums6 : List Sum := [{ ex := SEx.bad, ds := [], ls := [], pc := [(SB.lt (SI.var nm6) (SI.lit 0), true), (SB.lt (SI.var nm6) (SI.var 1), true), (SB.lt (SI.var nm6) (SI.lit 2), false), (SB.lt (SI.lit 0) n6.nat, true), (SB.lt (SI.var 1) (SI.lit 2), false), (SB.lt n6 (SI.lit 1073741824), true), (SB.lt n6 (SI.lit 0), false)] }, { ex := SEx.bad, ds := [], ls := [], pc := [(SB.lt (SI.var nm6) n6.nat, false), (SB.lt (SI.var nm6) (SI.lit 0), false), (SB.lt (SI.var nm6) (SI.var 1), true), (SB.lt (SI.var nm6) (SI.lit 2), false), (SB.lt (SI.lit 0) n6.nat, true), (SB.lt (SI.var 1) (SI.lit 2), false), (SB.lt n6 (SI.lit 1073741824), true), (SB.lt n6 (SI.lit 0), false)] }, { ex := SEx.bad, ds := [], ls := [], pc := [(SB.lt (SI.var nm6) (SI.len (ar6)), false), (SB.lt (SI.var nm6) n6.nat, true), (SB.lt (SI.var nm6) (SI.lit 0), false), (SB.lt (SI.var nm6) (SI.var 1), true), (SB.lt (SI.var nm6) (SI.lit 2), false), (SB.lt (SI.lit 0) n6.nat, true), (SB.lt (SI.var 1) (SI.lit 2), false), (SB.lt n6 (SI.lit 1073741824), true), (SB.lt n6 (SI.lit 0), false)] }, { ex := SEx.normal, ds := [(SV.int IntKind.i64 (SI.wrap IntKind.i64 ((SI.var nm6).add (SI.lit 1))), SV.int IntKind.i64 (SI.var nm6))], ls := [((ar6).set (SI.var nm6) (SI.wrap IntKind.u64 ((SI.wrap IntKind.u64 (SI.var nm6)).add (SI.lit 1))), ar6)], pc := [(SB.lt (SI.var nm6) (SI.len (ar6)), true), (SB.lt (SI.var nm6) n6.nat, true), (SB.lt (SI.var nm6) (SI.lit 0), false), (SB.lt (SI.var nm6) (SI.var 1), true), (SB.lt (SI.var nm6) (SI.lit 2), false), (SB.lt (SI.lit 0) n6.nat, true), (SB.lt (SI.var 1) (SI.lit 2), false), (SB.lt n6 (SI.lit 1073741824), true), (SB.lt n6 (SI.lit 0), false)] }, { ex := SEx.exit 0, ds := [(SV.int IntKind.i64 (SI.var nm6), SV.int IntKind.i64 (SI.var nm6))], ls := [(ar6, ar6)], pc := [(SB.lt (SI.var nm6) (SI.var 1), false), (SB.lt (SI.var nm6) (SI.lit 2), false), (SB.lt (SI.lit 0) n6.nat, true), (SB.lt (SI.var 1) (SI.lit 2), false), (SB.lt n6 (SI.lit 1073741824), true), (SB.lt n6 (SI.lit 0), false)] }]
theorem body6 : (codeX Try.prog noOrac (2^700) (2^650) 49 6000 0 (loopAt Try.prog 49 5) (fr6 Try.prog) pc6I (hp6 Try.prog)).bind (sumsM nm6 (2^700) (2^650) (⟨.normal, fr6 Try.prog, hp6 Try.prog, pc6I⟩ :: tg6 Try.prog)) = some sums6 := by kernel_rfl
theorem one6 : (loopsAt Try.prog 49 5).length = 1 := by kernel_rfl
theorem st6 : diffX (fun v => v.av nm6 (nm6 + 64)) (cap6 Try.prog).fr (fr6 Try.prog) = some [(.int .i64 (.lit 2), .int .i64 (.var nm6))] := by kernel_rfl
theorem sl6 : diffH (fun m => out nm6 (nm6 + 64) m) (fun b => b.av nm6 (nm6 + 64)) (cap6 Try.prog).hp (hp6 Try.prog) = some [(.set (.rep n6 (.lit 0)) (.lit 0) (.lit 2), ar6)] := by kernel_rfl
attribute [local irreducible] nmAt in
theorem on6 : out (2^700) (2^700 + 2^650) nm6 = true := out_nm (s := 5) (j := 0) (by decide +kernel) (by omega)
theorem pc6_of {ν : Env Gh} (h : 2 ≤ ν.i 1 ∧ ν.i 1 ≤ 4096) : pcDen ν pc6 := by
  simp only [pc6, n6, pcDen_cons_iff, pcDen_nil_iff, SB.den, decide_eq_true_eq, decide_eq_false_iff_not]
  simp only [SI.den, wrapS (ν.i 1 + 1) (by omega) (by omega)]
  exact ⟨by omega, by omega, by omega, by omega, trivial⟩
theorem of_pc6B {ν : Env Gh} (h : pcDen ν pc6B) : 2 ≤ ν.i 1 ∧ ν.i 1 ≤ 4096 := by
  simp only [pc6B, pc6, pcDen_cons_iff, pcDen_nil_iff, SB.den, decide_eq_true_eq, decide_eq_false_iff_not] at h
  simp only [SI.den] at h
  omega

theorem or6_ok : OOK Try.prog (or6 Try.prog) inM := by
  have os : ∀ {m : Nat}, m < 1000 → out nm6 (nm6 + 64) m = true := fun h => out_small h
  have ob : ∀ {m : Nat}, m < 1000 → out (2^700) (2^700 + 2^650) m = true := fun h => out_big h
  have hpcI : ∀ {ν ν1 : Env Gh} {ρ : Nat → Nat}, (2 ≤ ν.i 1 ∧ ν.i 1 ≤ 4096) → Agree nm6 (nm6 + 64) ν ν1 ρ ρ → 2 ≤ ν1.i nm6 → pcDen ν1 pc6I := by
    intro ν ν1 ρ hb ha h0
    refine pcDen_cons ?_ (pc6_of (by rw [ha.i 1 (os (by omega))]; exact hb))
    simp only [SB.den, decide_eq_false_iff_not]
    simp only [SI.den]
    omega
  refine loopM_ok pr (noOrac_ok (I := inM)) one6 body6 st6 sl6 (fun ν ν1 => 2 ≤ ν1.i nm6 ∧ ν1.i nm6 ≤ ν.i 1) (fun ν ν1 => (ν.i 1 - ν1.i nm6).toNat) ?_ ?_ noOrac_ok
  · intro ν ρ hI hb
    have hok := of_pc6B (bads_neg hb)
    have ha := set1_agree ν ρ nm6 2
    have hI1 : (set1 ν nm6 2).I = inM := hI
    refine ⟨_, ha, ⟨by rw [set1_self]; omega, by rw [set1_self]; omega⟩, hpcI hok ha (by rw [set1_self]; omega), fun y hy => ?_, fun y hy => ?_⟩
    · simp only [List.mem_cons, List.not_mem_nil, or_false] at hy
      subst hy
      simp only [SV.den, SI.den, set1_self]
    · simp only [List.mem_cons, List.not_mem_nil, or_false] at hy
      subst hy
      simp only [ar6, n6, arX_den hI1, SL.den, SI.den, set1_self, ha.i 1 (os (by omega))]
      exact aG_start (by omega) (by omega)
  · intro s hs ν ρ ν1 ν2 ρ2 hI hb a1 hJ _ a2 hp2
    have hok := of_pc6B (bads_neg hb)
    obtain ⟨j1, j2⟩ := hJ
    have i1 : ν2.i 1 = ν.i 1 := (a2.i 1 (ob (by omega))).trans (a1.i 1 (os (by omega)))
    have ek : ν2.i nm6 = ν1.i nm6 := a2.i nm6 on6
    have hI2 : ν2.I = inM := a2.I.trans (a1.I.trans hI)
    have ha3 : ∀ x, Agree nm6 (nm6 + 64) ν (set1 ν nm6 x) ρ ρ := fun x => set1_agree ν ρ nm6 x
    have hI3 : ∀ x, (set1 ν nm6 x).I = inM := fun x => hI
    have w1 : IntKind.i64.wrap (ν.i 1 + 1) = ν.i 1 + 1 := wrapS _ (by omega) (by omega)
    simp only [sums6, List.mem_cons, List.not_mem_nil, or_false] at hs
    rcases hs with rfl | rfl | rfl | rfl | rfl
    all_goals
      simp only [pcDen_cons_iff, SB.den, decide_eq_true_eq, decide_eq_false_iff_not] at hp2
      simp only [SI.den, ar6, n6, arX_den hI2, aG_length, i1, ek, w1] at hp2
      first
        | (exfalso; omega)
        | (refine ⟨set1 ν nm6 (ν1.i nm6 + 1), ha3 _, ⟨by rw [set1_self]; omega, by rw [set1_self]; omega⟩, hpcI hok (ha3 _) (by rw [set1_self]; omega), by rw [set1_self]; omega, fun y hy => ?_, fun y hy => ?_⟩
           · simp only [List.mem_cons, List.not_mem_nil, or_false] at hy
             subst hy
             simp only [SV.den, SI.den, ek, set1_self]
             rw [wrapS _ (by omega) (by omega)]
           · simp only [List.mem_cons, List.not_mem_nil, or_false] at hy
             subst hy
             simp only [SL.den, ar6, n6, arX_den hI2, arX_den (hI3 _), SI.den, i1, ek, w1, set1_self, (ha3 _).i 1 (os (by omega))]
             have := aG_set (n := ν.i 1 + 1) (at' := 0) (N := ν.i 1) (i := ν1.i nm6) (v := IntKind.u64.wrap (IntKind.u64.wrap (ν1.i nm6) + 1)) (by omega) (by omega) (by rw [if_pos (by omega), wrapU (ν1.i nm6) (by omega) (by omega), wrapU _ (by omega) (by omega)])
             rwa [Int.zero_add] at this)
        | (refine ⟨set1 ν nm6 (ν1.i nm6), ha3 _, fun t ht he => ?_, fun y hy => ?_, fun y hy => ?_⟩
           · simp only [tg6, List.mem_cons, List.not_mem_nil, or_false] at ht
             subst ht
             refine pcDen_one ?_
             simp only [SB.den, beq_iff_eq]
             simp only [SI.den, set1_self, (ha3 _).i 1 (os (by omega))]
             omega
           · simp only [List.mem_cons, List.not_mem_nil, or_false] at hy
             subst hy
             simp only [SV.den, SI.den, ek, set1_self]
           · simp only [List.mem_cons, List.not_mem_nil, or_false] at hy
             subst hy
             simp only [ar6, n6, arX_den hI2, arX_den (hI3 _), SI.den, i1, ek, set1_self, (ha3 _).i 1 (os (by omega))])

def run6 : Option (List (Bool × PC × SI × SL)) := some ((false, (.eq (.var nm6) (.var 1), true) :: pc6, .nat n6, ar6) :: bad6.map fun c => (true, c :: pc6, .lit 0, .nil))
theorem run_ref6 : freshOf 51 (runX Try.prog (or6 Try.prog) 49 args6 pc6 []) = run6 := by kernel_rfl

set_option maxRecDepth 100000 in
theorem ref6_calls (N : Int) (h : 2 ≤ N ∧ N ≤ 4096) : FreshC Try.prog 49 51 [.int .i64 N, .int .i64 2] (aG (N + 1) 0 N N) := by
  intro w
  have e : (denL (envG (fun _ => N) (fun _ => [])) (fun _ => 0) args6).toArray = #[.int .i64 N, .int .i64 2] := by simp [denL, SV.den, SI.den, args6, envG]
  show Calls Try.prog 49 #[.int .i64 N, .int .i64 2] w _
  rw [← e]
  refine fresh_calls pr or6_ok (run_ref6.trans rfl) w _ _ _ rfl (pc6_of h) ?_
  intro x hx ν hag hI hp
  have i1 : ν.i 1 = N := hag 1 (out_LO (by omega))
  refine Or.elim (List.mem_cons.1 hx) (fun e => ?_) (fun hx => ?_)
  · subst e
    refine ⟨rfl, fun w' k rest hb hk hh hl => ?_⟩
    simp only [pcDen_cons_iff, SB.den, beq_iff_eq] at hp
    simp only [SI.den, i1] at hp
    have el : ar6.den ν = aG (N + 1) 0 N N := by
      simp only [ar6, n6, arX_den hI, SI.den, i1, hp.1]
      rw [wrapS _ (by omega) (by omega)]
    have en : (SI.nat n6).den ν = ((N + 1).toNat : Int) := by
      simp only [n6, SI.den, i1]
      rw [wrapS _ (by omega) (by omega)]
    rw [el] at hh hl
    rw [en] at hl
    rw [aG_length] at hl
    have hr : rest = [] := List.eq_nil_of_length_eq_zero (by omega)
    subst hr
    refine ⟨k, ?_, hk, hh, hb⟩
    rw [en, aG_length]
    rfl
  · obtain ⟨c, hc, rfl⟩ := List.mem_map.1 hx
    obtain ⟨d, hd, rfl⟩ := List.mem_map.1 hc
    have h1 := hp d.1 (!d.2) (by simp)
    rcases List.mem_cons.1 hd with e | hd
    · subst e
      simp only [SB.den] at h1
      simp only [SI.den, i1] at h1
      have : ¬ 4096 < N := by omega
      simp [this] at h1
    · have h2 := hp d.1 d.2 (List.mem_cons_of_mem _ hd)
      rw [h1] at h2
      simp at h2

def ref6K (tyR lo : Nat) (args : List SV) (pc : PC) (hp : Heap) : Option (List CLeaf) := match args with
  | [.int .i64 N, .int .i64 (.lit 2)] => freshK tyR lo (arX (.add N (.lit 1)) (.lit 0) N N) (.nat (.add N (.lit 1))) [(.lt N (.lit 2), true), (.lt (.lit 4096) N, true)] pc hp
  | _ => none
set_option maxRecDepth 100000 in
theorem ref6K_ok {O : Orac} (oo : OOK Try.prog O inM) : OOK Try.prog (O.withCall 49 (ref6K 51)) inM := by
  refine withCall_ok oo ?_
  intro lo args pc hp cs h sz hsz B ν ρ w R hI hpc hw hl
  unfold ref6K at h
  split at h
  · rename_i N
    have e : denL ν ρ [SV.int .i64 N, .int .i64 (.lit 2)] = [.int .i64 (N.den ν), .int .i64 2] := by simp [denL, SV.den, SI.den]
    rw [e]
    refine freshK_ok h hsz (xs := aG (N.den ν + 1) 0 (N.den ν) (N.den ν)) hpc hw hl (fun hb => ?_)
    simp only [List.mem_cons, List.not_mem_nil, or_false, forall_eq_or_imp, forall_eq, SB.den, ne_eq, decide_eq_true_eq, decide_eq_false_iff_not] at hb
    simp only [SI.den] at hb
    refine ⟨ref6_calls (N.den ν) (by omega), by simp only [arX_den hI, SI.den], by simp only [SI.den, aG_length], by rw [aG_length]; omega⟩
  · cases h
end Go.Proofs.Ytoogepoalbhlhaa
