/- Texts of one library, in one file. -/
import Derived.Test.YtlmenjenkpnacaaSyD
import Derived.Deep.Slices
set_option linter.unusedVariables false
set_option linter.unusedSimpArgs false

section
namespace Go.Sy
open Go Go.RowKit

/-! ### contracts of calls that change nothing -/
/-- The leaves: may it be; the value; the path. -/
def lvOf : Option (List CLeaf) → Option (List (Bool × SV × PC))
  | some l => some (l.map fun c => (c.bad, c.v, c.pc))
  | none => none

theorem lv_calls {P : Program} {G : Type} {O : Orac} {I : In G} (pr : PR P) (oo : OOK P O I) {f : Nat} {args : List SV} {pc : PC} {hp : Heap} {l : List (Bool × SV × PC)} (h : lvOf (runX P O f args pc hp) = some l) (w : World) (ν : Env G) (ρ : Nat → Nat) (R : Ending → World → Prop) (hI : ν.I = I)
    (hpc : pcDen ν pc) (hw : HW (baseOf w) ν ρ hp w)
    (hc : ∀ x ∈ l, ∀ ν' ρ', Agree LO (LO + LO) ν ν' ρ ρ' → pcDen ν' x.2.2 → x.1 = false ∧ ∀ w', Below w.heap.size w w' → R (.returned (x.2.1.den ν' ρ')) w') : Calls P f (denL ν ρ args).toArray w R := by
  cases hr : runX P O f args pc hp with
  | none => rw [hr] at h; cases h
  | some cs =>
    rw [hr] at h
    simp only [lvOf, Option.some.injEq] at h
    refine runX_calls pr oo hr (baseOf w) ν ρ w R hI hpc hw fun c hm ν' ρ' w' hag hp' => ?_
    obtain ⟨h1, h2⟩ := hc (c.bad, c.v, c.pc) (by rw [← h]; exact List.mem_map.2 ⟨c, hm, rfl⟩) ν' ρ' hag hp'
    exact ⟨h1, fun hw' => h2 w' hw'.below⟩
end Go.Sy
end

section
namespace Go.Sy
open Go Go.RowKit

/-- Of function g: these leaves, where there are any; else as before. -/
def Orac.withCallF (O : Orac) (g : Nat) (k : Nat → List SV → PC → Heap → Option (List CLeaf)) : Orac :=
  { O with call := fun f lo args pc hp => if Nat.beq f g then (match k lo args pc hp with | some cs => some (some cs) | none => O.call f lo args pc hp) else O.call f lo args pc hp }

theorem withCallF_ok {P : Program} {G : Type} {O : Orac} {I : In G} (oo : OOK P O I) {g : Nat} {k : Nat → List SV → PC → Heap → Option (List CLeaf)} (h : OOK P (O.withCall g k) I) : OOK P (O.withCallF g k) I where
  op := h.op
  tail := h.tail
  order := h.order
  call := by
    intro f lo args pc hp cs ho
    unfold Orac.withCallF at ho
    simp only at ho
    split at ho
    · rename_i hb
      split at ho
      · rename_i cs' hk
        refine h.call ?_
        unfold Orac.withCall
        simp only
        rw [if_pos hb]
        rw [hk]
        exact ho
      · exact oo.call ho
    · exact oo.call ho
  loop := oo.loop

section
theorem inM_gl (f : Nat) (g : Gh) (x y : Int) : inM.gl f g x y = g.l := rfl
theorem inM_gb (g : Gh) (x y : Int) : inM.gb 0 g x y = g.o := rfl
theorem inM_gi0 (g : Gh) (x y : Int) : inM.gi 0 g x y = g.u := rfl
theorem inM_gi1 (g : Gh) (x y : Int) : inM.gi 1 g x y = g.c := rfl
theorem doX_den {ν : Env Gh} (hI : ν.I = inM) (k c a b : SI) (l : SL) : (doX k c a b l).den ν = doG (k.den ν) (c.den ν) (a.den ν) (b.den ν) (l.den ν) := by simp [doX, SG.den, hI, inM]
def lsX (l : SL) : SG := .app 1 (.var 0) (.var 0) (.lit 0) (.lit 0) (.lit 0) (.lit 0) l
theorem lsX_den {ν : Env Gh} (hI : ν.I = inM) (l : SL) : (lsX l).den ν = ghL (l.den ν) := by simp [lsX, SG.den, hI, inM]
theorem app2_den {ν : Env Gh} (hI : ν.I = inM) (g h : SG) (a b c d : SI) (l : SL) : (SG.app 2 g h a b c d l).den ν = ⟨0, 0, (g.den ν).l == (h.den ν).l, [], [], [], 0⟩ := by simp [SG.den, hI, inM]
theorem ghL_l (l : List Int) : (ghL l).l = l := rfl
end

/-- An access of an unknown kind. -/
def litKind : List SV → Bool
  | [_, .agg (.int _ (.lit _) :: _)] => true
  | _ => false
def doF (tyM tyR : Nat) (lo : Nat) (args : List SV) (pc : PC) (hp : Heap) : Option (List CLeaf) := if litKind args then none else doK tyM tyR lo args pc hp
theorem doF_ok {P : Program} {O : Orac} (oo : OOK P O inM) {g tyM tyR : Nat} (hc : DoC P g tyM tyR) : OOK P (O.withCallF g (doF tyM tyR)) inM := by
  have h := doK_ok oo hc
  refine withCallF_ok oo ⟨?_, oo.loop, oo.op, oo.tail, oo.order⟩
  intro f lo args pc hp cs ho
  refine h.call ?_
  revert ho
  unfold Orac.withCall
  simp only
  split
  · intro ho
    unfold doF at ho
    split at ho
    · cases ho
    · exact ho
  · exact id
end Go.Sy
end

section
namespace Go.Sy
open Go Go.RowKit Go.ChangeShapes Go.WideShapes Go.ChangeAt Go.Deep

section
variable {H : Type} {enc : TypeId × Value → H} {P : Program} {W : World}

theorem choose_quads {n : Nat} {R : Nat → (Int × Int × Int × Int) → Prop} (h : ∀ i, i < n → ∃ q, R i q) : ∃ qs : List (Int × Int × Int × Int), qs.length = n ∧ ∀ i q, qs[i]? = some q → R i q := by
  induction n with
  | zero => exact ⟨[], rfl, fun i q hq => by simp at hq⟩
  | succ n ih =>
    obtain ⟨qs, h1, h2⟩ := ih fun i hi => h i (by omega)
    obtain ⟨q, hq⟩ := h n (by omega)
    refine ⟨qs ++ [q], by simp [h1], fun i x hx => ?_⟩
    rw [List.getElem?_append] at hx
    split at hx
    · exact h2 i x hx
    · rename_i hlt
      have : i = n := by
        have := (List.getElem?_eq_some_iff.1 hx).1
        simp at this
        omega
      subst this
      simp [h1] at hx
      rw [← hx]; exact hq

/-- A slice of structs of four integers that came in. -/
theorem arg_quads {t e : TypeId} {f0 f1 f2 f3 : Field} {k0 k1 k2 k3 : IntKind} (ht : P.underlying t = some (.slice e)) (he : P.underlying e = some (.struct #[f0, f1, f2, f3])) (ce : P.cellsOf e = 4)
    (o0 : f0.offset = 0) (o1 : f1.offset = 1) (o2 : f2.offset = 2) (o3 : f3.offset = 3) (c0 : P.cellsOf f0.type = 1) (c1 : P.cellsOf f1.type = 1) (c2 : P.cellsOf f2.type = 1) (c3 : P.cellsOf f3.type = 1)
    (u0 : P.underlying f0.type = some (.int k0)) (u1 : P.underlying f1.type = some (.int k1)) (u2 : P.underlying f2.type = some (.int k2)) (u3 : P.underlying f3.type = some (.int k3))
    {r : Reach} {b0 : Nat} {v : Value} {d : DataW H} {ps : List MemPlace} (hok : Value.okWide P W r b0 t v) (h : DataW.Trod enc P W 0 (fun _ => true) true t v d ps) :
    v = .slice none 0 0 ∨ (∃ a, v = .slice (some a) 0 0) ∨ ∃ (g o cap : Nat) (qs : List (Int × Int × Int × Int)), v = .slice (some ⟨g, o, none⟩) qs.length cap ∧ g < W.heap.size ∧ qs.length ≤ cap ∧ cap ≤ maxLen ∧
      ∀ i q, qs[i]? = some q → W.cell? ⟨g, o + i * 4, none⟩ = some (.int k0 q.1) ∧ W.cell? ⟨g, o + (i * 4 + 1), none⟩ = some (.int k1 q.2.1) ∧ W.cell? ⟨g, o + (i * 4 + 2), none⟩ = some (.int k2 q.2.2.1) ∧ W.cell? ⟨g, o + (i * 4 + 3), none⟩ = some (.int k3 q.2.2.2) := by
  obtain ⟨a0, l0, cp, rfl⟩ := okWide_slice ht hok
  obtain ⟨fuel, hf⟩ := h
  rcases open_slice ht hf with ⟨hcs, _⟩ | ⟨a, len, cap, m, n, D, Pl, hcs, _, hl, hm, hmm, _, hx⟩
  · left; simpa [Value.cells] using hcs
  · right
    simp only [Value.cells, List.cons.injEq, Value.slice.injEq, and_true] at hcs
    obtain ⟨rfl, rfl, rfl⟩ := hcs
    simp only [if_true] at hmm
    subst hmm
    have each : ∀ i, i < m → ∃ q : Int × Int × Int × Int, W.cell? (a.add (i * 4)) = some (.int k0 q.1) ∧ W.cell? (a.add (i * 4 + 1)) = some (.int k1 q.2.1) ∧ W.cell? (a.add (i * 4 + 2)) = some (.int k2 q.2.2.1) ∧ W.cell? (a.add (i * 4 + 3)) = some (.int k3 q.2.2.2) := by
      intro i hi
      obtain ⟨cs', h1, h2⟩ := hx i hi
      rw [ce] at h1
      obtain ⟨_, hlen, hcell⟩ := World.cells?_some h1
      obtain ⟨xs, k, hk, hxy, _, hxl, hf⟩ := DataW.trod_struct he h2
      match xs, hxl, cs', hlen with
      | [y0, y1, y2, y3], _, [v0, v1, v2, v3], _ =>
        have g0 := hf 0 f0 rfl
        have g1 := hf 1 f1 rfl
        have g2 := hf 2 f2 rfl
        have g3 := hf 3 f3 rfl
        simp [o0, o1, o2, o3, c0, c1, c2, c3] at g0 g1 g2 g3
        obtain ⟨i0, r0, _⟩ := DataW.trod_int u0 g0
        obtain ⟨i1, r1, _⟩ := DataW.trod_int u1 g1
        obtain ⟨i2, r2, _⟩ := DataW.trod_int u2 g2
        obtain ⟨i3, r3, _⟩ := DataW.trod_int u3 g3
        have e0 := hcell 0 (by omega)
        have e1 := hcell 1 (by omega)
        have e2 := hcell 2 (by omega)
        have e3 := hcell 3 (by omega)
        rw [add_add] at e0 e1 e2 e3
        simp only [List.cons.injEq, and_true] at r0 r1 r2 r3
        subst r0 r1 r2 r3
        exact ⟨(i0, i1, i2, i3), by simpa using e0, by simpa using e1, by simpa using e2, by simpa using e3⟩
    rcases Nat.eq_zero_or_pos m with h0 | h0
    · left
      have : l0 = 0 := by omega
      subst h0 this
      exact ⟨a, rfl⟩
    · right
      obtain ⟨q0, z0, _⟩ := each 0 h0
      have hsp : a.spot = none := World.cell?_spot (a := a) (by simpa [Addr.add] using z0)
      obtain ⟨g, o, sp⟩ := a
      simp only at hsp
      subst hsp
      obtain ⟨qs, q1, q2⟩ := choose_quads (n := l0) (R := fun i q => W.cell? ((⟨g, o, none⟩ : Addr).add (i * 4)) = some (.int k0 q.1) ∧ W.cell? ((⟨g, o, none⟩ : Addr).add (i * 4 + 1)) = some (.int k1 q.2.1) ∧ W.cell? ((⟨g, o, none⟩ : Addr).add (i * 4 + 2)) = some (.int k2 q.2.2.1) ∧ W.cell? ((⟨g, o, none⟩ : Addr).add (i * 4 + 3)) = some (.int k3 q.2.2.2)) fun i hi => each i (by omega)
      refine ⟨g, o, m, qs, by rw [q1], World.block_lt_of_cell? W ⟨g, o, none⟩ (by simpa [Addr.add] using z0), by omega, hm, fun i q hq => ?_⟩
      simpa only [add_none] using q2 i q hq
end

/-- A table that came in. -/
theorem HW.addTab {G : Type} {B : Base} {ν : Env G} {ρ : Nat → Nat} {hp : Heap} {w : World} (h : HW B ν ρ hp w) {n f : Nat} {g : SG} {ks : List (Option IntKind)} {o len : SI} (hn : n ∉ hp.map (·.1)) (hno : ¬ B.own (ρ n)) (h0 : 0 ≤ o.den ν)
    (hc : ∀ (i j : Nat) k, i < (len.den ν).toNat → ks[j]? = some k → B.w0.cell? ⟨ρ n, (o.den ν).toNat + (i * ks.length + j), none⟩ = some (tabV ν.I (g.den ν) (f + j) i k)) : HW B ν ρ ((n, .tab f g ks o len) :: hp) w := by
  obtain ⟨F, h1, h2, h3⟩ := h.foot
  refine ⟨h.os, h.tape, h.output, h.size, h.kept, by simp only [List.map_cons, List.nodup_cons]; exact ⟨hn, h.nd⟩, fun m => if m = n then fun _ => False else F m, fun m b hm => ?_, fun m b j hm hj => ?_, fun m b m' b' j hm hm' hj hj' => ?_⟩
  · rcases List.mem_cons.1 hm with hm | hm
    · cases hm
      simp only [if_true, BlkDen]
      exact ⟨fun _ hf => hf, hno, h0, hc⟩
    · have : m ≠ n := fun e => hn (List.mem_map.2 ⟨_, hm, e⟩)
      simp only [this, if_false]
      exact h1 m b hm
  · rcases List.mem_cons.1 hm with hm | hm
    · cases hm; simp at hj
    · have : m ≠ n := fun e => hn (List.mem_map.2 ⟨_, hm, e⟩)
      simp only [this, if_false] at hj
      exact h2 m b j hm hj
  · rcases List.mem_cons.1 hm with hm | hm
    · cases hm; simp at hj
    · have e : m ≠ n := fun e => hn (List.mem_map.2 ⟨_, hm, e⟩)
      rcases List.mem_cons.1 hm' with hm' | hm'
      · cases hm'; simp at hj'
      · have e' : m' ≠ n := fun e => hn (List.mem_map.2 ⟨_, hm', e⟩)
        simp only [e, e', if_false] at hj hj'
        exact h3 m b m' b' j hm hm' hj hj'
end Go.Sy
end

section
namespace Go.Sy
open Go Go.RowKit

section
variable {P : Program} {G : Type} {O : Orac} {I : In G}
/-- Of the loop at site s of function g, entered with this frame and this heap: these leaves; else as before. -/
def Orac.withLoopF (O : Orac) (g s nm0 : Nat) (fr0 : List SV) (hp0 : Heap) (mk : PC → List Leaf) : Orac :=
  { O with loop := fun f t nm fr pc hp => if Nat.beq f g && Nat.beq t s && (Nat.beq nm nm0 && beqL fr fr0 && leafBeq.hB hp hp0) then some (some (mk pc)) else O.loop f t nm fr pc hp }
theorem withLoopF_ok (oo : OOK P O I) {g s nm0 : Nat} {fr0 : List SV} {hp0 : Heap} {mk : PC → List Leaf} (h : OOK P (O.withLoop g s nm0 fr0 hp0 mk) I) : OOK P (O.withLoopF g s nm0 fr0 hp0 mk) I where
  call := oo.call
  op := oo.op
  tail := oo.tail
  order := oo.order
  loop := by
    intro f nm a fr pc hp ls hpart ho
    unfold Orac.withLoopF at ho
    simp only at ho
    split at ho
    · rename_i hb
      refine h.loop hpart ?_
      unfold Orac.withLoop
      simp only
      simp only [Bool.and_eq_true] at hb
      rw [if_pos (by simp only [Bool.and_eq_true]; exact hb.1), if_pos (by simp only [Bool.and_eq_true]; exact hb.2)]
      exact ho
    · exact oo.loop hpart ho

/-! ### a loop that counts up to a bound and fills one row, of whose words nothing is said -/
def setNL {G : Type} (ν : Env G) (n : Nat) (x : Int) (l : List Int) : Env G := { ν with i := fun m => if m = n then x else ν.i m, l := fun m => if m = n then l else ν.l m }
theorem setNL_agree {G : Type} (ν : Env G) (ρ : Nat → Nat) (n : Nat) (x : Int) (l : List Int) : Agree n (n + 64) ν (setNL ν n x l) ρ ρ := by
  have h : ∀ m, out n (n + 64) m = true → m ≠ n := fun m hm => by
    unfold out at hm
    simp only [Bool.or_eq_true, Nat.ble_eq] at hm
    omega
  exact ⟨rfl, fun _ _ => rfl, fun m hm => by simp [setNL, h m hm], fun _ _ => rfl, fun _ _ => rfl, fun m hm => by simp [setNL, h m hm], fun _ _ => rfl, fun _ _ => rfl⟩
theorem setNL_i {G : Type} (ν : Env G) (n : Nat) (x : Int) (l : List Int) : (setNL ν n x l).i n = x := by simp [setNL]
theorem setNL_l {G : Type} (ν : Env G) (n : Nat) (x : Int) (l : List Int) : (setNL ν n x l).l n = l := by simp [setNL]

def frH (nm ci : Nat) (L : Leaf) : List SV := deadUndef (L.fr.set ci (.int .i64 (.var nm)))
def hpH (nm si : Nat) (L : Leaf) : Heap := setRow (fget L.fr si) (.var nm) L.hp
def pcH (nm : Nat) : PC := [(.lt (.var nm) (.lit 0), false)]
def tgH (nm ci si e : Nat) (N : SI) (L : Leaf) : List Tgt := [⟨.exit e, frH nm ci L, hpH nm si L, [(.eq (.len (.var nm)) N, true)]⟩]
def badH (N : SI) (l0 : SL) : PC := [(.eq (.len l0) N, false), (.lt (.lit 9223372036854775807) N, true)]
def sumsH (nm e : Nat) (N x : SI) : List Sum := [
  ⟨.bad, [], [], (.lt (.var nm) (.len (.var nm)), false) :: (.lt (.var nm) N, true) :: pcH nm⟩,
  ⟨.normal, [(.int .i64 (.wrap .i64 (.add (.var nm) (.lit 1))), .int .i64 (.var nm))], [(.set (.var nm) (.var nm) x, .var nm)], (.lt (.var nm) (.len (.var nm)), true) :: (.lt (.var nm) N, true) :: pcH nm⟩,
  ⟨.exit e, [(.int .i64 (.var nm), .int .i64 (.var nm))], [(.var nm, .var nm)], (.lt (.var nm) N, false) :: pcH nm⟩]

theorem havoc_ok (pr : PR P) (oo : OOK P O I) {f s nm ci si e : Nat} (on : out (2^700) (2^700 + 2^650) nm = true) {L : Leaf} {N x : SI} {l0 : SL} (h1 : (loopsAt P f s).length = 1)
    (hbody : (codeX P O (2^700) (2^650) f 6000 0 (loopAt P f s) (frH nm ci L) (pcH nm) (hpH nm si L)).bind (sumsM nm (2^700) (2^650) (⟨.normal, frH nm ci L, hpH nm si L, pcH nm⟩ :: tgH nm ci si e N L)) = some (sumsH nm e N x))
    (hst : diffX (fun v => v.av nm (nm + 64)) L.fr (frH nm ci L) = some [(.int .i64 (.lit 0), .int .i64 (.var nm))])
    (hsl : diffH (fun m => out nm (nm + 64) m) (fun b => b.av nm (nm + 64)) L.hp (hpH nm si L) = some [(l0, .var nm)])
    (hN : N.av nm (nm + 64) = true) (hN2 : N.av (2^700) (2^700 + 2^650) = true) {O' : Orac} (oo' : OOK P O' I) :
    OOK P (O'.withLoopF f s nm L.fr L.hp (mkM nm (tgH nm ci si e N L) (badH N l0))) I := by
  have hbads : ∀ {ν : Env G}, (∀ x ∈ badH N l0, x.1.den ν ≠ x.2) → ((l0.den ν).length : Int) = N.den ν ∧ N.den ν ≤ 9223372036854775807 := by
    intro ν h
    simp only [badH, List.mem_cons, List.not_mem_nil, or_false, forall_eq_or_imp, forall_eq, SB.den, ne_eq, decide_eq_true_eq, beq_eq_false_iff_ne, Decidable.not_not] at h
    simp only [SI.den] at h
    omega
  have hpcI : ∀ {ν1 : Env G}, 0 ≤ ν1.i nm → pcDen ν1 (pcH nm) := by
    intro ν1 h0
    simp only [pcH, pcDen_cons_iff, pcDen_nil_iff, SB.den, decide_eq_false_iff_not]
    simp only [SI.den]
    exact ⟨by omega, trivial⟩
  have wrapS : ∀ x : Int, -9223372036854775808 ≤ x → x ≤ 9223372036854775807 → IntKind.i64.wrap x = x := fun x h1 h2 => by rw [IntKind.wrap_i64]; omega
  refine withLoopF_ok oo' (loopM_ok pr oo h1 hbody hst hsl
    (fun ν ν1 => 0 ≤ ν1.i nm ∧ ν1.i nm ≤ N.den ν ∧ ((ν1.l nm).length : Int) = N.den ν) (fun ν ν1 => (N.den ν - ν1.i nm).toNat) ?_ ?_ oo')
  · intro ν ρ hI hb
    obtain ⟨b1, b2⟩ := hbads hb
    have ha := setNL_agree ν ρ nm 0 (l0.den ν)
    refine ⟨_, ha, ⟨by rw [setNL_i]; omega, by rw [setNL_i]; omega, by rw [setNL_l]; exact b1⟩, hpcI (by rw [setNL_i]; omega), fun y hy => ?_, fun y hy => ?_⟩
    · simp only [List.mem_cons, List.not_mem_nil, or_false] at hy
      subst hy
      simp only [SV.den, SI.den, setNL_i]
    · simp only [List.mem_cons, List.not_mem_nil, or_false] at hy
      subst hy
      simp only [SL.den, setNL_l]
  · intro t ht ν ρ ν1 ν2 ρ2 hI hb a1 hJ _ a2 hp2
    obtain ⟨b1, b2⟩ := hbads hb
    obtain ⟨j1, j2, j3⟩ := hJ
    have eN : N.den ν2 = N.den ν := (SI.den_agree a2 N hN2).trans (SI.den_agree a1 N hN)
    have ek : ν2.i nm = ν1.i nm := a2.i nm on
    have el : ν2.l nm = ν1.l nm := a2.l nm on
    have ha3 : ∀ x l, Agree nm (nm + 64) ν (setNL ν nm x l) ρ ρ := fun x l => setNL_agree ν ρ nm x l
    simp only [sumsH, List.mem_cons, List.not_mem_nil, or_false] at ht
    rcases ht with rfl | rfl | rfl
    · simp only [pcDen_cons_iff, SB.den, decide_eq_true_eq, decide_eq_false_iff_not] at hp2
      simp only [SI.den, SL.den, eN, ek, el] at hp2
      exfalso
      omega
    · simp only [pcDen_cons_iff, SB.den, decide_eq_true_eq, decide_eq_false_iff_not] at hp2
      simp only [SI.den, SL.den, eN, ek, el] at hp2
      refine ⟨setNL ν nm (ν1.i nm + 1) ((ν1.l nm).set (ν1.i nm).toNat (x.den ν2)), ha3 _ _, ⟨by rw [setNL_i]; omega, by rw [setNL_i]; omega, by rw [setNL_l, List.length_set]; exact j3⟩, hpcI (by rw [setNL_i]; omega), by rw [setNL_i]; omega, fun y hy => ?_, fun y hy => ?_⟩
      · simp only [List.mem_cons, List.not_mem_nil, or_false] at hy
        subst hy
        simp only [SV.den, SI.den, ek, setNL_i]
        rw [wrapS _ (by omega) (by omega)]
      · simp only [List.mem_cons, List.not_mem_nil, or_false] at hy
        subst hy
        simp only [SL.den, SI.den, ek, el, setNL_l]
    · simp only [pcDen_cons_iff, SB.den, decide_eq_true_eq, decide_eq_false_iff_not] at hp2
      simp only [SI.den, SL.den, eN, ek, el] at hp2
      refine ⟨setNL ν nm (ν1.i nm) (ν1.l nm), ha3 _ _, fun t ht he => ?_, fun y hy => ?_, fun y hy => ?_⟩
      · simp only [tgH, List.mem_cons, List.not_mem_nil, or_false] at ht
        subst ht
        refine pcDen_one ?_
        simp only [SB.den, beq_iff_eq]
        simp only [SI.den, SL.den, setNL_l, SI.den_agree (ha3 _ _) N hN]
        exact j3
      · simp only [List.mem_cons, List.not_mem_nil, or_false] at hy
        subst hy
        simp only [SV.den, SI.den, ek, setNL_i]
      · simp only [List.mem_cons, List.not_mem_nil, or_false] at hy
        subst hy
        simp only [SL.den, el, setNL_l]
end
end Go.Sy
end

section
namespace Go.Sy
open Go Go.RowKit

/-! ### loops whose rows may move (append): a head's block is named by the slot of its slice -/
def blkAt (fr : List SV) (t : Nat) : Option Nat := match fr[t]? with
  | some (.sl b _ _ _) => some b
  | _ => none
/-- The slot of a name that may move. -/
def slotOf : List (Nat × Nat) → Nat → Option Nat
  | [], _ => none
  | (m, t) :: r, n => if Nat.beq m n then some t else slotOf r n
def sig (ren : List (Nat × Nat)) (fr : List SV) (m : Nat) : Nat := match slotOf ren m with
  | some t => (blkAt fr t).getD m
  | none => m
def renR (ren : List (Nat × Nat)) (fr : List SV) (ρ ρ2 : Nat → Nat) (m : Nat) : Nat := match slotOf ren m with
  | some _ => ρ2 (sig ren fr m)
  | none => ρ m

def siD (ok : SI → Bool) (a b : SI) : List (SI × SI) := if a.beq b && ok a then [] else [(a, b)]
def okSI (nm lo sz : Nat) (a : SI) : Bool := a.av nm (nm + 64) && a.av lo (lo + sz)

/-- The slots that part: other values; numbers of slices that moved. -/
def diffF (ok : SV → Bool) (oki : SI → Bool) (ren : List (Nat × Nat)) (fr0 : List SV) : List SV → List SV → Option (List (SV × SV) × List (SI × SI))
  | [], [] => some ([], [])
  | u :: us, v :: vs => match diffF ok oki ren fr0 us vs with
    | none => none
    | some (d, i) => if v.isDead then some (d, i) else if u.beq v && ok v then some (d, i) else if u.isDead then none else match u, v with
      | .sl b o n c, .sl b' o' n' c' => if (slotOf ren b').isSome && Nat.beq (sig ren fr0 b') b then some (d, siD oki o o' ++ (siD oki n n' ++ (siD oki c c' ++ i))) else some ((u, v) :: d, i)
      | _, _ => some ((u, v) :: d, i)
  | _, _ => none

section
variable {G : Type}
theorem siD_den {ok : SI → Bool} {ν ν' : Env G} (hok : ∀ a, ok a = true → a.den ν = a.den ν') {a b : SI} (h : ∀ y ∈ siD ok a b, y.1.den ν = y.2.den ν') : a.den ν = b.den ν' := by
  unfold siD at h
  split at h
  · rename_i hb
    simp only [Bool.and_eq_true] at hb
    rw [← SI.beq_eq hb.1]
    exact hok a hb.2
  · exact h (a, b) (by simp)

theorem diffF_den {ok : SV → Bool} {oki : SI → Bool} {ren : List (Nat × Nat)} {fr0 : List SV} {ν ν' : Env G} {ρ ρ2 : Nat → Nat} (hok : ∀ v, ok v = true → v.den ν ρ2 = v.den ν' (renR ren fr0 ρ ρ2)) (hoki : ∀ a, oki a = true → a.den ν = a.den ν') :
    ∀ {us vs : List SV} {d : List (SV × SV)} {i : List (SI × SI)}, diffF ok oki ren fr0 us vs = some (d, i) → (∀ x ∈ d, x.1.den ν ρ2 = x.2.den ν' (renR ren fr0 ρ ρ2)) → (∀ x ∈ i, x.1.den ν = x.2.den ν') →
    us.length = vs.length ∧ ∀ (t : Nat) (v : SV), vs[t]? = some v → v.isDead = false → ∃ u, us[t]? = some u ∧ u.isDead = false ∧ u.den ν ρ2 = v.den ν' (renR ren fr0 ρ ρ2)
  | [], [], _, _, _, _, _ => ⟨rfl, fun t v h => by simp at h⟩
  | [], _ :: _, _, _, h, _, _ => by simp [diffF] at h
  | _ :: _, [], _, _, h, _, _ => by simp [diffF] at h
  | u :: us, v :: vs, d, i, h, hd, hi => by
    unfold diffF at h
    split at h
    · cases h
    · rename_i d0 i0 h0
      have key : (∀ x ∈ d0, x.1.den ν ρ2 = x.2.den ν' (renR ren fr0 ρ ρ2)) → (∀ x ∈ i0, x.1.den ν = x.2.den ν') → (v.isDead = false → u.isDead = false ∧ u.den ν ρ2 = v.den ν' (renR ren fr0 ρ ρ2)) → (u :: us).length = (v :: vs).length ∧ ∀ (t : Nat) (x : SV), (v :: vs)[t]? = some x → x.isDead = false → ∃ y, (u :: us)[t]? = some y ∧ y.isDead = false ∧ y.den ν ρ2 = x.den ν' (renR ren fr0 ρ ρ2) := by
        intro hd0 hi0 hv
        obtain ⟨e1, e2⟩ := diffF_den hok hoki h0 hd0 hi0
        refine ⟨by simp [e1], fun t x hx hdead => ?_⟩
        cases t with
        | zero =>
          simp only [List.getElem?_cons_zero, Option.some.injEq] at hx
          subst hx
          exact ⟨u, rfl, hv hdead⟩
        | succ t => simpa using e2 t x (by simpa using hx) hdead
      split at h
      · rename_i hdead
        cases h
        exact key hd hi (fun hd' => by rw [hdead] at hd'; cases hd')
      · rename_i hdead
        split at h
        · rename_i hb
          simp only [Bool.and_eq_true] at hb
          cases h
          have hbe := SV.beq_eq hb.1
          subst hbe
          exact key hd hi (fun hd' => ⟨hd', hok u hb.2⟩)
        · rename_i hnb
          split at h
          · cases h
          · rename_i hud0
            have hud : u.isDead = false := by simpa using hud0
            split at h
            · rename_i b o n c b' o' n' c'
              split at h
              · rename_i hs
                simp only [Bool.and_eq_true] at hs
                cases h
                have e := Nat.eq_of_beq_eq_true hs.2
                have hi' : ∀ x ∈ i0, x.1.den ν = x.2.den ν' := fun x hx => hi x (by simp [hx])
                refine key hd hi' (fun _ => ⟨hud, ?_⟩)
                have d1 := siD_den hoki (a := o) (b := o') (fun y hy => hi y (by simp [hy]))
                have d2 := siD_den hoki (a := n) (b := n') (fun y hy => hi y (by simp [hy]))
                have d3 := siD_den hoki (a := c) (b := c') (fun y hy => hi y (by simp [hy]))
                have d4 : renR ren fr0 ρ ρ2 b' = ρ2 b := by
                  unfold renR
                  cases hsl : slotOf ren b' with
                  | none => rw [hsl] at hs; simp at hs
                  | some t => simp only; rw [e]
                simp only [SV.den, d1, d2, d3, d4]
              · cases h
                exact key (fun x hx => hd x (by simp [hx])) hi (fun _ => ⟨hud, hd _ (List.mem_cons_self ..)⟩)
            · cases h
              exact key (fun x hx => hd x (by simp [hx])) hi (fun _ => ⟨hud, hd (u, v) (by simp)⟩)

theorem FR.diffF {ok : SV → Bool} {oki : SI → Bool} {ren : List (Nat × Nat)} {fr0 : List SV} {ν ν' : Env G} {ρ ρ2 : Nat → Nat} (hok : ∀ v, ok v = true → v.den ν ρ2 = v.den ν' (renR ren fr0 ρ ρ2)) (hoki : ∀ a, oki a = true → a.den ν = a.den ν')
    {us vs : List SV} {d : List (SV × SV)} {i : List (SI × SI)} (h : Go.Sy.diffF ok oki ren fr0 us vs = some (d, i)) (hd : ∀ x ∈ d, x.1.den ν ρ2 = x.2.den ν' (renR ren fr0 ρ ρ2)) (hi : ∀ x ∈ i, x.1.den ν = x.2.den ν') {act : Act} (hf : FR ν ρ2 us act) : FR ν' (renR ren fr0 ρ ρ2) vs act := by
  obtain ⟨e1, e2⟩ := diffF_den hok hoki h hd hi
  refine ⟨by rw [hf.size, e1], fun t v hv hdead => ?_, hf.defers⟩
  obtain ⟨u, hu, hud, hden⟩ := e2 t v hv hdead
  rw [hf.tmps t u hu hud, hden]

/-! the heap -/
def nodupB : List Nat → Bool
  | [] => true
  | n :: r => !(r.any (Nat.beq n)) && nodupB r
theorem nodupB_nd : ∀ {l : List Nat}, nodupB l = true → l.Nodup
  | [], _ => List.nodup_nil
  | n :: r, h => by
    simp only [nodupB, Bool.and_eq_true, Bool.not_eq_true'] at h
    refine List.nodup_cons.2 ⟨fun hm => ?_, nodupB_nd h.2⟩
    have := List.any_eq_false.1 h.1 n hm
    simp at this

/-- A block against the head's: numbers, lists. -/
def blkD (P : Program) (ok : SBk → Bool) (oki : SI → Bool) (moved : Bool) (b c : SBk) : Option (List (SI × SI) × List (SL × SL)) :=
  if !moved && b.beq c && ok b then some ([], []) else match c with
  | .row k l' e' t => match asRow P b with
    | some (j, l, e, t') => if kBeq j k && Nat.beq t' t then some (siD oki e e', [(l, l')]) else none
    | none => none
  | _ => none
def diffM (P : Program) (okn : Nat → Bool) (ok : SBk → Bool) (oki : SI → Bool) (ren : List (Nat × Nat)) (fr0 : List SV) (us : Heap) : Heap → Option (List (SI × SI) × List (SL × SL))
  | [] => some ([], [])
  | (m, c) :: vs => match hget (sig ren fr0 m) us with
    | none => none
    | some b => if (slotOf ren m).isSome || okn m then (match blkD P ok oki (slotOf ren m).isSome b c, diffM P okn ok oki ren fr0 us vs with
      | some x, some y => some (x.1 ++ y.1, x.2 ++ y.2)
      | _, _ => none) else none

variable {P : Program}
theorem blkD_den {ok : SBk → Bool} {oki : SI → Bool} {moved : Bool} {B : Base} {ν ν' : Env G} {ρ ρ' : Nat → Nat} {n m : Nat} (hnm : ρ' m = ρ n) (hok : moved = false → n = m ∧ ∀ b, ok b = true → ∀ w F, BlkDen B ν ρ w F n b → BlkDen B ν' ρ' w F m b) (hoki : ∀ a, oki a = true → a.den ν = a.den ν') {b c : SBk} {i : List (SI × SI)} {l : List (SL × SL)}
    (h : blkD P ok oki moved b c = some (i, l)) (hi : ∀ x ∈ i, x.1.den ν = x.2.den ν') (hl : ∀ y ∈ l, y.1.den ν = y.2.den ν') {us : Heap} {w : World} (hw : HW B ν ρ us w) (hm : (n, b) ∈ us) {F : Nat → Prop} (hd : BlkDen B ν ρ w F n b) : BlkDen B ν' ρ' w F m c := by
  unfold blkD at h
  split at h
  · rename_i hb
    simp only [Bool.and_eq_true, Bool.not_eq_true'] at hb
    have := SBk.beq_eq hb.1.2
    subst this
    exact (hok hb.1.1).2 b hb.2 w F hd
  · rename_i hnb
    split at h
    · rename_i k l' e' t
      split at h
      · rename_i j l0 e t' har
        split at h
        · rename_i hk
          simp only [Bool.and_eq_true] at hk
          have e1 := kBeq_eq hk.1
          have e2 := Nat.eq_of_beq_eq_true hk.2
          subst e1 e2
          cases h
          obtain ⟨rest, r1, r2, r3⟩ := asRow_den hw hm har
          have hF := BlkDen.single (asRow_nores har) hd
          have d1 := siD_den hoki (a := e) (b := e') hi
          have d2 := hl (l0, l') (by simp)
          simp only at d2
          simp only [BlkDen]
          rw [hnm, ← d1, ← d2]
          exact ⟨⟨rest, r1, r2, r3⟩, hF⟩
        · cases h
      · cases h
    · cases h

theorem HW.diffM {okn : Nat → Bool} {ok : SBk → Bool} {oki : SI → Bool} {ren : List (Nat × Nat)} {fr0 : List SV} {B : Base} {ν ν' : Env G} {ρ ρ2 : Nat → Nat}
    (hn : ∀ n, okn n = true → ρ n = ρ2 n) (hok : ∀ n b, okn n = true → ok b = true → ∀ w F, BlkDen B ν ρ2 w F n b → BlkDen B ν' (renR ren fr0 ρ ρ2) w F n b) (hoki : ∀ a, oki a = true → a.den ν = a.den ν') {us : Heap} {w : World} (hw : HW B ν ρ2 us w) {vs : Heap} {i : List (SI × SI)} {l : List (SL × SL)}
    (h : Go.Sy.diffM P okn ok oki ren fr0 us vs = some (i, l)) (hnd : nodupB (vs.map (·.1)) = true) (hinj : nodupB (vs.map fun x => sig ren fr0 x.1) = true) (hi : ∀ x ∈ i, x.1.den ν = x.2.den ν') (hl : ∀ y ∈ l, y.1.den ν = y.2.den ν') : HW B ν' (renR ren fr0 ρ ρ2) vs w := by
  obtain ⟨F, f1, f2, f3⟩ := hw.foot
  have key : ∀ {ws : Heap} {i : List (SI × SI)} {l : List (SL × SL)}, Go.Sy.diffM P okn ok oki ren fr0 us ws = some (i, l) → (∀ x ∈ i, x.1.den ν = x.2.den ν') → (∀ y ∈ l, y.1.den ν = y.2.den ν') → ∀ m c, (m, c) ∈ ws → ∃ b, (sig ren fr0 m, b) ∈ us ∧ BlkDen B ν' (renR ren fr0 ρ ρ2) w (F (sig ren fr0 m)) m c := by
    intro ws
    induction ws with
    | nil => intro i l _ _ _ m c hm; cases hm
    | cons x ws ih =>
      obtain ⟨m0, c0⟩ := x
      intro i l h hi hl m c hm
      unfold Go.Sy.diffM at h
      split at h
      · cases h
      · rename_i b hb
        split at h
        · rename_i hs
          split at h
          · rename_i x y hx hy
            cases h
            rcases List.mem_cons.1 hm with hm | hm
            · cases hm
              refine ⟨b, hget_mem hb, ?_⟩
              have hmem := hget_mem hb
              refine blkD_den (ρ := ρ2) (n := sig ren fr0 m0) ?_ ?_ hoki hx (fun z hz => hi z (List.mem_append_left _ hz)) (fun z hz => hl z (List.mem_append_left _ hz)) hw hmem (f1 _ _ hmem)
              · unfold renR
                cases hsl : slotOf ren m0 with
                | some t => rfl
                | none =>
                  rw [hsl] at hs
                  have e : sig ren fr0 m0 = m0 := by unfold sig; rw [hsl]
                  rw [e]
                  exact hn m0 (by simpa using hs)
              · intro hmv
                have hsl : slotOf ren m0 = none := by
                  cases h0 : slotOf ren m0 with
                  | none => rfl
                  | some t => rw [h0] at hmv; cases hmv
                have e : sig ren fr0 m0 = m0 := by unfold sig; rw [hsl]
                rw [hsl] at hs
                refine ⟨e, fun b' hb' w' F' hd' => ?_⟩
                rw [e] at hd'
                exact hok m0 b' (by simpa using hs) hb' w' F' hd'
            · exact ih hy (fun z hz => hi z (List.mem_append_right _ hz)) (fun z hz => hl z (List.mem_append_right _ hz)) m c hm
          · cases h
        · cases h
  refine ⟨hw.os, hw.tape, hw.output, hw.size, hw.kept, nodupB_nd hnd, fun m => F (sig ren fr0 m), fun m c hm => ?_, fun m c k hm hk => ?_, fun m c m' c' k hm hm' hk hk' => ?_⟩
  · obtain ⟨b, _, hb⟩ := key h hi hl m c hm
    exact hb
  · obtain ⟨b, hb, _⟩ := key h hi hl m c hm
    exact f2 _ b k hb hk
  · obtain ⟨b, hb, _⟩ := key h hi hl m c hm
    obtain ⟨b', hb', _⟩ := key h hi hl m' c' hm'
    have e := f3 _ b _ b' k hb hb' hk hk'
    have nd := nodupB_nd hinj
    have inj : ∀ {ws : Heap}, (ws.map fun x => sig ren fr0 x.1).Nodup → (m, c) ∈ ws → (m', c') ∈ ws → m = m' := by
      intro ws
      induction ws with
      | nil => intro _ h1; cases h1
      | cons x ws ih =>
        intro hnd h1 h2
        simp only [List.map_cons, List.nodup_cons] at hnd
        rcases List.mem_cons.1 h1 with h1 | h1 <;> rcases List.mem_cons.1 h2 with h2 | h2
        · rw [← h1] at h2; cases h2; rfl
        · exact absurd (List.mem_map.2 ⟨(m', c'), h2, by rw [← h1]; exact e.symm⟩) hnd.1
        · exact absurd (List.mem_map.2 ⟨(m, c), h1, by rw [← h2]; exact e⟩) hnd.1
        · exact ih hnd.2 h1 h2
    exact inj nd hm hm'
end
end Go.Sy
end
