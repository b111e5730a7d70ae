import Derived.Test.YtjcphbcjnjeccaaSy35
set_option linter.unusedVariables false
set_option linter.unusedSimpArgs false
namespace Go.Sy
open Go Go.RowKit

/-! ### what a run says of a function, used at its calls -/
/-! names of 64 and on -/
def insN (n : Nat) (l : List Nat) : List Nat := if Nat.ble (n + 1) 64 || l.any (Nat.beq n) then l else n :: l
mutual
def SI.nms : SI → List Nat → List Nat
  | .lit _, s => s
  | .var i, s => insN i s
  | .add a b, s | .sub a b, s | .mul a b, s | .tdiv a b, s | .tmod a b, s | .fdiv a b, s | .bits _ _ a b, s => b.nms (a.nms s)
  | .wrap _ a, s => a.nms s
  | .nat a, s => a.nms s
  | .len l, s => l.nms s
  | .nth l i, s => i.nms (l.nms s)
  | .gi _ g a b, s => b.nms (a.nms (g.nms s))
def SL.nms : SL → List Nat → List Nat
  | .nil, s => s
  | .cons x l, s => l.nms (x.nms s)
  | .var i, s => insN i s
  | .app a b, s => b.nms (a.nms s)
  | .set l i x, s => x.nms (i.nms (l.nms s))
  | .take l n, s | .drop l n, s => n.nms (l.nms s)
  | .rep n x, s => x.nms (n.nms s)
  | .gl _ g a b, s => b.nms (a.nms (g.nms s))
def SG.nms : SG → List Nat → List Nat
  | .var i, s => insN i s
  | .app _ g h a b c d l, s => l.nms (d.nms (c.nms (b.nms (a.nms (h.nms (g.nms s))))))
end
def SB.nms : SB → List Nat → List Nat
  | .lit _, s => s
  | .var i, s => insN i s
  | .not a, s => a.nms s
  | .and a b, s | .or a b, s | .same a b, s => b.nms (a.nms s)
  | .eq a b, s | .lt a b, s | .le a b, s => b.nms (a.nms s)
  | .gb _ g a b, s => b.nms (a.nms (g.nms s))
mutual
def SV.nms : SV → List Nat → List Nat
  | .int _ e, s => e.nms s
  | .bool e, s => e.nms s
  | .ptr b o, s => o.nms (insN b s)
  | .fn _ a b, s => nmsL b (nmsL a s)
  | .sl b o l c, s => c.nms (l.nms (o.nms (insN b s)))
  | .agg l, s | .tup l, s => nmsL l s
  | .gv _ g i, s => i.nms (g.nms s)
  | .osl b l c, s => c.nms (l.nms (insN b s))
  | _, s => s
def nmsL : List SV → List Nat → List Nat
  | [], s => s
  | x :: xs, s => nmsL xs (x.nms s)
end
def SBk.nms : SBk → List Nat → List Nat
  | .cells cs _ _, s => nmsL cs s
  | .row _ l c _, s => c.nms (l.nms s)
  | .res g, s => g.nms s
  | _, s => s
def hnms : Heap → List Nat → List Nat
  | [], s => s
  | (n, b) :: r, s => hnms r (b.nms (insN n s))
def pnms : PC → List Nat → List Nat
  | [], s => s
  | (c, _) :: r, s => pnms r (c.nms s)
def ixN (n : Nat) : List Nat → Nat
  | [] => 0
  | m :: r => if Nat.beq m n then 0 else ixN n r + 1
def inL (n : Nat) (l : List Nat) : Bool := l.any (Nat.beq n)

/-! ### which blocks are handed over -/
section
variable (P : Program)
def lB (t b : SBk) : SBk := match t with
  | .view _ _ _ => match asRow P b with
    | some (k, l, _, _) => .view k (.lit 0) l
    | none => b
  | _ => b
def lH1 (us : Heap) : Heap → Mt → Option (Heap × Mt)
  | [], s => some ([], s)
  | (m, c) :: r, s => match sigM 0 s m with
    | none => match lH1 us r s with
      | some (q, s) => some ((m, c) :: q, s)
      | none => none
    | some n => match hget n us with
      | none => none
      | some b => match mBk 0 0 0 P c (lB P c b) s with
        | none => none
        | some s => lH1 us r s
def lHs (us : Heap) : Nat → Heap → Mt → Option Mt
  | _, [], s => some s
  | 0, _ :: _, _ => none
  | n + 1, x :: r, s => match lH1 P us (x :: r) s with
    | some (q, s) => lHs us n q s
    | none => none
def isView : SBk → Bool
  | .view _ _ _ | .tab _ _ _ _ _ => true
  | _ => false
/-- The names of blocks that are the callee's own. -/
def handed (us : Heap) (args targs : List SV) (ht : Heap) : Option (List Nat) :=
  match mVs 0 0 0 targs args .none with
  | none => none
  | some s => match lHs P us (ht.length + 1) ht s with
    | none => none
    | some s => some (ht.filterMap fun x => if isView x.2 then none else lkp x.1 s.b)
/-- The heap as the callee sees it: what is not handed over can be read alone. -/
def seen (S : List Nat) : Heap → Heap
  | [] => []
  | (n, b) :: r => if inL n S then (n, b) :: seen S r else match b with
    | .view k o l => (n, .view k o l) :: seen S r
    | .tab f g ks o m => (n, .tab f g ks o m) :: seen S r
    | b => match asRow P b with
      | some (k, l, _, _) => (n, .view k (.lit 0) l) :: seen S r
      | none => seen S r
end

section
variable {P : Program} {G : Type} {B : Base} {ν : Env G} {ρ : Nat → Nat} {hp : Heap} {w : World}
theorem inL_mem {n : Nat} {l : List Nat} (h : inL n l = true) : n ∈ l := by
  obtain ⟨m, hm, he⟩ := List.any_eq_true.1 h
  rw [Nat.eq_of_beq_eq_true he]; exact hm
theorem mem_inL {n : Nat} {l : List Nat} (h : n ∈ l) : inL n l = true := List.any_eq_true.2 ⟨n, h, Nat.beq_refl n⟩

theorem seen_mem {S : List Nat} : ∀ {hp : Heap} {n : Nat} {b : SBk}, (n, b) ∈ seen P S hp → ∃ b0, (n, b0) ∈ hp ∧ ((inL n S = true ∧ b = b0) ∨ (inL n S = false ∧ isView b0 = true ∧ b = b0) ∨ (inL n S = false ∧ ∃ k l c ty, asRow P b0 = some (k, l, c, ty) ∧ b = .view k (.lit 0) l))
  | [], _, _, h => by cases h
  | (m, c) :: r, n, b, h => by
    have tl : (n, b) ∈ seen P S r → _ := fun h => seen_mem h
    have lift : (∃ b0, (n, b0) ∈ r ∧ ((inL n S = true ∧ b = b0) ∨ (inL n S = false ∧ isView b0 = true ∧ b = b0) ∨ (inL n S = false ∧ ∃ k l c ty, asRow P b0 = some (k, l, c, ty) ∧ b = .view k (.lit 0) l))) → ∃ b0, (n, b0) ∈ (m, c) :: r ∧ ((inL n S = true ∧ b = b0) ∨ (inL n S = false ∧ isView b0 = true ∧ b = b0) ∨ (inL n S = false ∧ ∃ k l c ty, asRow P b0 = some (k, l, c, ty) ∧ b = .view k (.lit 0) l)) := fun ⟨b0, h1, h2⟩ => ⟨b0, List.mem_cons_of_mem _ h1, h2⟩
    unfold seen at h
    split at h
    · rename_i hS
      rcases List.mem_cons.1 h with h | h
      · cases h; exact ⟨_, List.mem_cons_self .., .inl ⟨hS, rfl⟩⟩
      · exact lift (tl h)
    · rename_i hS
      have hS : inL m S = false := by simpa using hS
      split at h
      · rcases List.mem_cons.1 h with h | h
        · cases h; exact ⟨_, List.mem_cons_self .., .inr (.inl ⟨hS, rfl, rfl⟩)⟩
        · exact lift (tl h)
      · rcases List.mem_cons.1 h with h | h
        · cases h; exact ⟨_, List.mem_cons_self .., .inr (.inl ⟨hS, rfl, rfl⟩)⟩
        · exact lift (tl h)
      · split at h
        · rename_i har
          rcases List.mem_cons.1 h with h | h
          · cases h; exact ⟨_, List.mem_cons_self .., .inr (.inr ⟨hS, _, _, _, _, har, rfl⟩)⟩
          · exact lift (tl h)
        · exact lift (tl h)
theorem seen_sub {S : List Nat} : ∀ (hp : Heap), ((seen P S hp).map (·.1)).Sublist (hp.map (·.1))
  | [] => by simp [seen]
  | (m, c) :: r => by
    unfold seen
    split
    · simpa using seen_sub r
    · split
      · simpa using seen_sub r
      · simpa using seen_sub r
      · split
        · simpa using seen_sub r
        · exact (seen_sub r).cons _

/-- The base of a call: what is handed over is its own. -/
def baseS (w : World) (hp : Heap) (S : List Nat) (F : Nat → Nat → Prop) : Base := ⟨w, fun k => ∃ n b, (n, b) ∈ hp ∧ inL n S = true ∧ F n k⟩

theorem HW.seen (h : HW B ν ρ hp w) (S : List Nat) {F : Nat → Nat → Prop} (f1 : ∀ n b, (n, b) ∈ hp → BlkDen B ν ρ w (F n) n b) (f2 : ∀ n b k, (n, b) ∈ hp → F n k → B.own k) (f3 : ∀ n b m c k, (n, b) ∈ hp → (m, c) ∈ hp → F n k → F m k → n = m)
    (hv : ∀ n b, (n, b) ∈ hp → inL n S = true → isView b = false) : HW (baseS w hp S F) ν ρ (seen P S hp) w := by
  have hmine : ∀ k, (baseS w hp S F).mine k → B.own k := fun k ⟨n, b, h1, _, h3⟩ => f2 n b k h1 h3
  have hold : ∀ k, ¬ B.own k → ¬ (baseS w hp S F).own k := fun k hk hc => by
    rcases hc with hc | hc
    · exact hk (.inl (Nat.le_trans h.size hc))
    · exact hk (hmine k hc)
  refine ⟨rfl, rfl, rfl, Nat.le_refl _, fun _ _ => rfl, (seen_sub hp).nodup h.nd, fun n k => inL n S = true ∧ F n k, ?_, ?_, ?_⟩
  · intro n b hm
    obtain ⟨b0, hb0, hh⟩ := seen_mem hm
    have hd := f1 n b0 hb0
    rcases hh with ⟨hS, rfl⟩ | ⟨hS, hvw, rfl⟩ | ⟨hS, k, l, c, ty, har, rfl⟩
    · have hnv := hv n b hb0 hS
      have hF : (fun k => inL n S = true ∧ F n k) = F n := by funext k; simp [hS]
      show BlkDen _ ν ρ w (fun k => inL n S = true ∧ F n k) n b
      rw [hF]
      cases b with
      | cells cs ty ex => cases ex <;> exact hd
      | row k l c ty => exact hd
      | res g => exact hd
      | view k o l => cases hnv
      | tab f g ks o m => cases hnv
    · cases b with
      | cells cs ty ex => cases hvw
      | row k l c ty => cases hvw
      | res g => cases hvw
      | view k o l =>
        simp only [BlkDen] at hd ⊢
        refine ⟨fun j => by simp [hS], hold _ hd.2.1, hd.2.2.1, fun j x hx => ?_⟩
        show w.cell? _ = _
        rw [h.kept_cell hd.2.1]
        exact hd.2.2.2 j x hx
      | tab f g ks o m =>
        simp only [BlkDen] at hd ⊢
        refine ⟨fun j => by simp [hS], hold _ hd.2.1, hd.2.2.1, fun i j k hi hk => ?_⟩
        show w.cell? _ = _
        rw [h.kept_cell hd.2.1]
        exact hd.2.2.2 i j k hi hk
    · obtain ⟨rest, r1, r2, r3⟩ := asRow_den h hb0 har
      have hF := BlkDen.single (asRow_nores har) hd
      simp only [BlkDen]
      refine ⟨fun j => by simp [hS], fun hc => ?_, by simp [SI.den], fun j x hx => ?_⟩
      · rcases hc with hc | ⟨n', b', h1, h2, h3⟩
        · have := (Array.getElem?_eq_some_iff.1 r1).1
          have hc : w.heap.size ≤ ρ n := hc
          omega
        · have := f3 n b0 n' b' (ρ n) hb0 h1 ((hF _).2 rfl) h3
          rw [this] at hS
          rw [hS] at h2; cases h2
      · show w.cell? _ = _
        simp only [SI.den]
        have := cell_at (w := w) r1 j
        simp only [Int.toNat_zero, Nat.zero_add]
        rw [this, List.getElem?_append_left (by simp; exact (List.getElem?_eq_some_iff.1 hx).1)]
        simp [hx]
  · rintro n b k hm ⟨hS, hk⟩
    obtain ⟨b0, hb0, _⟩ := seen_mem hm
    exact .inr ⟨n, b0, hb0, hS, hk⟩
  · rintro n b m c k hm hm' ⟨_, hk⟩ ⟨_, hk'⟩
    obtain ⟨b0, hb0, _⟩ := seen_mem hm
    obtain ⟨c0, hc0, _⟩ := seen_mem hm'
    exact f3 n b0 m c0 k hb0 hc0 hk hk'
end
end Go.Sy
