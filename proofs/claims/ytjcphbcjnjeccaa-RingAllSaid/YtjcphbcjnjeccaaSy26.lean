import Derived.Test.YtjcphbcjnjeccaaSy25
set_option linter.unusedVariables false
set_option linter.unusedSimpArgs false
namespace Go.Sy
open Go Go.RowKit

section
variable {P : Program} {G : Type} {O : Orac} {I : In G}
/-- Of the loop at site s of function g, entered with this frame and this heap: these leaves; else as before. -/
def Orac.withLoopF (O : Orac) (g s nm0 : Nat) (fr0 : List SV) (hp0 : Heap) (mk : PC → List Leaf) : Orac :=
  { O with loop := fun f t nm fr pc hp => if Nat.beq f g && Nat.beq t s && (Nat.beq nm nm0 && beqL fr fr0 && leafBeq.hB hp hp0) then some (some (mk pc)) else O.loop f t nm fr pc hp }
theorem withLoopF_ok (oo : OOK P O I) {g s nm0 : Nat} {fr0 : List SV} {hp0 : Heap} {mk : PC → List Leaf} (h : OOK P (O.withLoop g s nm0 fr0 hp0 mk) I) : OOK P (O.withLoopF g s nm0 fr0 hp0 mk) I where
  call := oo.call
  op := oo.op
  loop := by
    intro f nm a fr pc hp ls hpart ho
    unfold Orac.withLoopF at ho
    simp only at ho
    split at ho
    · rename_i hb
      refine h.loop hpart ?_
      unfold Orac.withLoop
      simp only
      simp only [Bool.and_eq_true] at hb
      rw [if_pos (by simp only [Bool.and_eq_true]; exact hb.1), if_pos (by simp only [Bool.and_eq_true]; exact hb.2)]
      exact ho
    · exact oo.loop hpart ho

/-! ### a loop that counts up to a bound and fills one row, of whose words nothing is said -/
def setNL {G : Type} (ν : Env G) (n : Nat) (x : Int) (l : List Int) : Env G := { ν with i := fun m => if m = n then x else ν.i m, l := fun m => if m = n then l else ν.l m }
theorem setNL_agree {G : Type} (ν : Env G) (ρ : Nat → Nat) (n : Nat) (x : Int) (l : List Int) : Agree n (n + 64) ν (setNL ν n x l) ρ ρ := by
  have h : ∀ m, out n (n + 64) m = true → m ≠ n := fun m hm => by
    unfold out at hm
    simp only [Bool.or_eq_true, Nat.ble_eq] at hm
    omega
  exact ⟨rfl, fun _ _ => rfl, fun m hm => by simp [setNL, h m hm], fun _ _ => rfl, fun _ _ => rfl, fun m hm => by simp [setNL, h m hm], fun _ _ => rfl, fun _ _ => rfl⟩
theorem setNL_i {G : Type} (ν : Env G) (n : Nat) (x : Int) (l : List Int) : (setNL ν n x l).i n = x := by simp [setNL]
theorem setNL_l {G : Type} (ν : Env G) (n : Nat) (x : Int) (l : List Int) : (setNL ν n x l).l n = l := by simp [setNL]

def frH (nm ci : Nat) (L : Leaf) : List SV := deadUndef (L.fr.set ci (.int .i64 (.var nm)))
def hpH (nm si : Nat) (L : Leaf) : Heap := setRow (fget L.fr si) (.var nm) L.hp
def pcH (nm : Nat) : PC := [(.lt (.var nm) (.lit 0), false)]
def tgH (nm ci si e : Nat) (N : SI) (L : Leaf) : List Tgt := [⟨.exit e, frH nm ci L, hpH nm si L, [(.eq (.len (.var nm)) N, true)]⟩]
def badH (N : SI) (l0 : SL) : PC := [(.eq (.len l0) N, false), (.lt (.lit 9223372036854775807) N, true)]
def sumsH (nm e : Nat) (N x : SI) : List Sum := [
  ⟨.bad, [], [], (.lt (.var nm) (.len (.var nm)), false) :: (.lt (.var nm) N, true) :: pcH nm⟩,
  ⟨.normal, [(.int .i64 (.wrap .i64 (.add (.var nm) (.lit 1))), .int .i64 (.var nm))], [(.set (.var nm) (.var nm) x, .var nm)], (.lt (.var nm) (.len (.var nm)), true) :: (.lt (.var nm) N, true) :: pcH nm⟩,
  ⟨.exit e, [(.int .i64 (.var nm), .int .i64 (.var nm))], [(.var nm, .var nm)], (.lt (.var nm) N, false) :: pcH nm⟩]

theorem havoc_ok (pr : PR P) (oo : OOK P O I) {f s nm ci si e : Nat} (on : out (2^700) (2^700 + 2^650) nm = true) {L : Leaf} {N x : SI} {l0 : SL} (h1 : (loopsAt P f s).length = 1)
    (hbody : (codeX P O (2^700) (2^650) f 6000 0 (loopAt P f s) (frH nm ci L) (pcH nm) (hpH nm si L)).bind (sumsM nm (2^700) (2^650) (⟨.normal, frH nm ci L, hpH nm si L, pcH nm⟩ :: tgH nm ci si e N L)) = some (sumsH nm e N x))
    (hst : diffX (fun v => v.av nm (nm + 64)) L.fr (frH nm ci L) = some [(.int .i64 (.lit 0), .int .i64 (.var nm))])
    (hsl : diffH (fun m => out nm (nm + 64) m) (fun b => b.av nm (nm + 64)) L.hp (hpH nm si L) = some [(l0, .var nm)])
    (hN : N.av nm (nm + 64) = true) (hN2 : N.av (2^700) (2^700 + 2^650) = true) {O' : Orac} (oo' : OOK P O' I) :
    OOK P (O'.withLoopF f s nm L.fr L.hp (mkM nm (tgH nm ci si e N L) (badH N l0))) I := by
  have hbads : ∀ {ν : Env G}, (∀ x ∈ badH N l0, x.1.den ν ≠ x.2) → ((l0.den ν).length : Int) = N.den ν ∧ N.den ν ≤ 9223372036854775807 := by
    intro ν h
    simp only [badH, List.mem_cons, List.not_mem_nil, or_false, forall_eq_or_imp, forall_eq, SB.den, ne_eq, decide_eq_true_eq, beq_eq_false_iff_ne, Decidable.not_not] at h
    simp only [SI.den] at h
    omega
  have hpcI : ∀ {ν1 : Env G}, 0 ≤ ν1.i nm → pcDen ν1 (pcH nm) := by
    intro ν1 h0
    simp only [pcH, pcDen_cons_iff, pcDen_nil_iff, SB.den, decide_eq_false_iff_not]
    simp only [SI.den]
    exact ⟨by omega, trivial⟩
  have wrapS : ∀ x : Int, -9223372036854775808 ≤ x → x ≤ 9223372036854775807 → IntKind.i64.wrap x = x := fun x h1 h2 => by rw [IntKind.wrap_i64]; omega
  refine withLoopF_ok oo' (loopM_ok pr oo h1 hbody hst hsl
    (fun ν ν1 => 0 ≤ ν1.i nm ∧ ν1.i nm ≤ N.den ν ∧ ((ν1.l nm).length : Int) = N.den ν) (fun ν ν1 => (N.den ν - ν1.i nm).toNat) ?_ ?_ oo')
  · intro ν ρ hI hb
    obtain ⟨b1, b2⟩ := hbads hb
    have ha := setNL_agree ν ρ nm 0 (l0.den ν)
    refine ⟨_, ha, ⟨by rw [setNL_i]; omega, by rw [setNL_i]; omega, by rw [setNL_l]; exact b1⟩, hpcI (by rw [setNL_i]; omega), fun y hy => ?_, fun y hy => ?_⟩
    · simp only [List.mem_cons, List.not_mem_nil, or_false] at hy
      subst hy
      simp only [SV.den, SI.den, setNL_i]
    · simp only [List.mem_cons, List.not_mem_nil, or_false] at hy
      subst hy
      simp only [SL.den, setNL_l]
  · intro t ht ν ρ ν1 ν2 ρ2 hI hb a1 hJ _ a2 hp2
    obtain ⟨b1, b2⟩ := hbads hb
    obtain ⟨j1, j2, j3⟩ := hJ
    have eN : N.den ν2 = N.den ν := (SI.den_agree a2 N hN2).trans (SI.den_agree a1 N hN)
    have ek : ν2.i nm = ν1.i nm := a2.i nm on
    have el : ν2.l nm = ν1.l nm := a2.l nm on
    have ha3 : ∀ x l, Agree nm (nm + 64) ν (setNL ν nm x l) ρ ρ := fun x l => setNL_agree ν ρ nm x l
    simp only [sumsH, List.mem_cons, List.not_mem_nil, or_false] at ht
    rcases ht with rfl | rfl | rfl
    · simp only [pcDen_cons_iff, SB.den, decide_eq_true_eq, decide_eq_false_iff_not] at hp2
      simp only [SI.den, SL.den, eN, ek, el] at hp2
      exfalso
      omega
    · simp only [pcDen_cons_iff, SB.den, decide_eq_true_eq, decide_eq_false_iff_not] at hp2
      simp only [SI.den, SL.den, eN, ek, el] at hp2
      refine ⟨setNL ν nm (ν1.i nm + 1) ((ν1.l nm).set (ν1.i nm).toNat (x.den ν2)), ha3 _ _, ⟨by rw [setNL_i]; omega, by rw [setNL_i]; omega, by rw [setNL_l, List.length_set]; exact j3⟩, hpcI (by rw [setNL_i]; omega), by rw [setNL_i]; omega, fun y hy => ?_, fun y hy => ?_⟩
      · simp only [List.mem_cons, List.not_mem_nil, or_false] at hy
        subst hy
        simp only [SV.den, SI.den, ek, setNL_i]
        rw [wrapS _ (by omega) (by omega)]
      · simp only [List.mem_cons, List.not_mem_nil, or_false] at hy
        subst hy
        simp only [SL.den, SI.den, ek, el, setNL_l]
    · simp only [pcDen_cons_iff, SB.den, decide_eq_true_eq, decide_eq_false_iff_not] at hp2
      simp only [SI.den, SL.den, eN, ek, el] at hp2
      refine ⟨setNL ν nm (ν1.i nm) (ν1.l nm), ha3 _ _, fun t ht he => ?_, fun y hy => ?_, fun y hy => ?_⟩
      · simp only [tgH, List.mem_cons, List.not_mem_nil, or_false] at ht
        subst ht
        refine pcDen_one ?_
        simp only [SB.den, beq_iff_eq]
        simp only [SI.den, SL.den, setNL_l, SI.den_agree (ha3 _ _) N hN]
        exact j3
      · simp only [List.mem_cons, List.not_mem_nil, or_false] at hy
        subst hy
        simp only [SV.den, SI.den, ek, setNL_i]
      · simp only [List.mem_cons, List.not_mem_nil, or_false] at hy
        subst hy
        simp only [SL.den, el, setNL_l]
end
end Go.Sy
