import Derived.Test.YtjcphbcjnjeccaaSy24
import Derived.Deep.Slices
set_option linter.unusedVariables false
set_option linter.unusedSimpArgs false
namespace Go.Sy
open Go Go.RowKit Go.ChangeShapes Go.WideShapes Go.ChangeAt Go.Deep

section
variable {H : Type} {enc : TypeId × Value → H} {P : Program} {W : World}

theorem choose_quads {n : Nat} {R : Nat → (Int × Int × Int × Int) → Prop} (h : ∀ i, i < n → ∃ q, R i q) : ∃ qs : List (Int × Int × Int × Int), qs.length = n ∧ ∀ i q, qs[i]? = some q → R i q := by
  induction n with
  | zero => exact ⟨[], rfl, fun i q hq => by simp at hq⟩
  | succ n ih =>
    obtain ⟨qs, h1, h2⟩ := ih fun i hi => h i (by omega)
    obtain ⟨q, hq⟩ := h n (by omega)
    refine ⟨qs ++ [q], by simp [h1], fun i x hx => ?_⟩
    rw [List.getElem?_append] at hx
    split at hx
    · exact h2 i x hx
    · rename_i hlt
      have : i = n := by
        have := (List.getElem?_eq_some_iff.1 hx).1
        simp at this
        omega
      subst this
      simp [h1] at hx
      rw [← hx]; exact hq

/-- A slice of structs of four integers that came in. -/
theorem arg_quads {t e : TypeId} {f0 f1 f2 f3 : Field} {k0 k1 k2 k3 : IntKind} (ht : P.underlying t = some (.slice e)) (he : P.underlying e = some (.struct #[f0, f1, f2, f3])) (ce : P.cellsOf e = 4)
    (o0 : f0.offset = 0) (o1 : f1.offset = 1) (o2 : f2.offset = 2) (o3 : f3.offset = 3) (c0 : P.cellsOf f0.type = 1) (c1 : P.cellsOf f1.type = 1) (c2 : P.cellsOf f2.type = 1) (c3 : P.cellsOf f3.type = 1)
    (u0 : P.underlying f0.type = some (.int k0)) (u1 : P.underlying f1.type = some (.int k1)) (u2 : P.underlying f2.type = some (.int k2)) (u3 : P.underlying f3.type = some (.int k3))
    {r : Reach} {b0 : Nat} {v : Value} {d : DataW H} {ps : List MemPlace} (hok : Value.okWide P W r b0 t v) (h : DataW.Trod enc P W 0 (fun _ => true) true t v d ps) :
    v = .slice none 0 0 ∨ (∃ a, v = .slice (some a) 0 0) ∨ ∃ (g o cap : Nat) (qs : List (Int × Int × Int × Int)), v = .slice (some ⟨g, o, none⟩) qs.length cap ∧ g < W.heap.size ∧ qs.length ≤ cap ∧ cap ≤ maxLen ∧
      ∀ i q, qs[i]? = some q → W.cell? ⟨g, o + i * 4, none⟩ = some (.int k0 q.1) ∧ W.cell? ⟨g, o + (i * 4 + 1), none⟩ = some (.int k1 q.2.1) ∧ W.cell? ⟨g, o + (i * 4 + 2), none⟩ = some (.int k2 q.2.2.1) ∧ W.cell? ⟨g, o + (i * 4 + 3), none⟩ = some (.int k3 q.2.2.2) := by
  obtain ⟨a0, l0, cp, rfl⟩ := okWide_slice ht hok
  obtain ⟨fuel, hf⟩ := h
  rcases open_slice ht hf with ⟨hcs, _⟩ | ⟨a, len, cap, m, n, D, Pl, hcs, _, hl, hm, hmm, _, hx⟩
  · left; simpa [Value.cells] using hcs
  · right
    simp only [Value.cells, List.cons.injEq, Value.slice.injEq, and_true] at hcs
    obtain ⟨rfl, rfl, rfl⟩ := hcs
    simp only [if_true] at hmm
    subst hmm
    have each : ∀ i, i < m → ∃ q : Int × Int × Int × Int, W.cell? (a.add (i * 4)) = some (.int k0 q.1) ∧ W.cell? (a.add (i * 4 + 1)) = some (.int k1 q.2.1) ∧ W.cell? (a.add (i * 4 + 2)) = some (.int k2 q.2.2.1) ∧ W.cell? (a.add (i * 4 + 3)) = some (.int k3 q.2.2.2) := by
      intro i hi
      obtain ⟨cs', h1, h2⟩ := hx i hi
      rw [ce] at h1
      obtain ⟨_, hlen, hcell⟩ := World.cells?_some h1
      obtain ⟨xs, k, hk, hxy, _, hxl, hf⟩ := DataW.trod_struct he h2
      match xs, hxl, cs', hlen with
      | [y0, y1, y2, y3], _, [v0, v1, v2, v3], _ =>
        have g0 := hf 0 f0 rfl
        have g1 := hf 1 f1 rfl
        have g2 := hf 2 f2 rfl
        have g3 := hf 3 f3 rfl
        simp [o0, o1, o2, o3, c0, c1, c2, c3] at g0 g1 g2 g3
        obtain ⟨i0, r0, _⟩ := DataW.trod_int u0 g0
        obtain ⟨i1, r1, _⟩ := DataW.trod_int u1 g1
        obtain ⟨i2, r2, _⟩ := DataW.trod_int u2 g2
        obtain ⟨i3, r3, _⟩ := DataW.trod_int u3 g3
        have e0 := hcell 0 (by omega)
        have e1 := hcell 1 (by omega)
        have e2 := hcell 2 (by omega)
        have e3 := hcell 3 (by omega)
        rw [add_add] at e0 e1 e2 e3
        simp only [List.cons.injEq, and_true] at r0 r1 r2 r3
        subst r0 r1 r2 r3
        exact ⟨(i0, i1, i2, i3), by simpa using e0, by simpa using e1, by simpa using e2, by simpa using e3⟩
    rcases Nat.eq_zero_or_pos m with h0 | h0
    · left
      have : l0 = 0 := by omega
      subst h0 this
      exact ⟨a, rfl⟩
    · right
      obtain ⟨q0, z0, _⟩ := each 0 h0
      have hsp : a.spot = none := World.cell?_spot (a := a) (by simpa [Addr.add] using z0)
      obtain ⟨g, o, sp⟩ := a
      simp only at hsp
      subst hsp
      obtain ⟨qs, q1, q2⟩ := choose_quads (n := l0) (R := fun i q => W.cell? ((⟨g, o, none⟩ : Addr).add (i * 4)) = some (.int k0 q.1) ∧ W.cell? ((⟨g, o, none⟩ : Addr).add (i * 4 + 1)) = some (.int k1 q.2.1) ∧ W.cell? ((⟨g, o, none⟩ : Addr).add (i * 4 + 2)) = some (.int k2 q.2.2.1) ∧ W.cell? ((⟨g, o, none⟩ : Addr).add (i * 4 + 3)) = some (.int k3 q.2.2.2)) fun i hi => each i (by omega)
      refine ⟨g, o, m, qs, by rw [q1], World.block_lt_of_cell? W ⟨g, o, none⟩ (by simpa [Addr.add] using z0), by omega, hm, fun i q hq => ?_⟩
      simpa only [add_none] using q2 i q hq
end

/-- A table that came in. -/
theorem HW.addTab {G : Type} {B : Base} {ν : Env G} {ρ : Nat → Nat} {hp : Heap} {w : World} (h : HW B ν ρ hp w) {n f : Nat} {g : SG} {ks : List (Option IntKind)} {o len : SI} (hn : n ∉ hp.map (·.1)) (hno : ¬ B.own (ρ n)) (h0 : 0 ≤ o.den ν)
    (hc : ∀ (i j : Nat) k, i < (len.den ν).toNat → ks[j]? = some k → B.w0.cell? ⟨ρ n, (o.den ν).toNat + (i * ks.length + j), none⟩ = some (tabV ν.I (g.den ν) (f + j) i k)) : HW B ν ρ ((n, .tab f g ks o len) :: hp) w := by
  obtain ⟨F, h1, h2, h3⟩ := h.foot
  refine ⟨h.os, h.tape, h.output, h.size, h.kept, by simp only [List.map_cons, List.nodup_cons]; exact ⟨hn, h.nd⟩, fun m => if m = n then fun _ => False else F m, fun m b hm => ?_, fun m b j hm hj => ?_, fun m b m' b' j hm hm' hj hj' => ?_⟩
  · rcases List.mem_cons.1 hm with hm | hm
    · cases hm
      simp only [if_true, BlkDen]
      exact ⟨fun _ hf => hf, hno, h0, hc⟩
    · have : m ≠ n := fun e => hn (List.mem_map.2 ⟨_, hm, e⟩)
      simp only [this, if_false]
      exact h1 m b hm
  · rcases List.mem_cons.1 hm with hm | hm
    · cases hm; simp at hj
    · have : m ≠ n := fun e => hn (List.mem_map.2 ⟨_, hm, e⟩)
      simp only [this, if_false] at hj
      exact h2 m b j hm hj
  · rcases List.mem_cons.1 hm with hm | hm
    · cases hm; simp at hj
    · have e : m ≠ n := fun e => hn (List.mem_map.2 ⟨_, hm, e⟩)
      rcases List.mem_cons.1 hm' with hm' | hm'
      · cases hm'; simp at hj'
      · have e' : m' ≠ n := fun e => hn (List.mem_map.2 ⟨_, hm', e⟩)
        simp only [e, e', if_false] at hj hj'
        exact h3 m b m' b' j hm hm' hj hj'
end Go.Sy
