import Derived.Test.YtjcphbcjnjeccaaSy28
set_option linter.unusedVariables false
set_option linter.unusedSimpArgs false
namespace Go.Sy
open Go Go.RowKit

/-! ### loops whose rows may move (append): a head's block is named by the slot of its slice -/
def blkAt (fr : List SV) (t : Nat) : Option Nat := match fr[t]? with
  | some (.sl b _ _ _) => some b
  | _ => none
/-- The slot of a name that may move. -/
def slotOf : List (Nat × Nat) → Nat → Option Nat
  | [], _ => none
  | (m, t) :: r, n => if Nat.beq m n then some t else slotOf r n
def sig (ren : List (Nat × Nat)) (fr : List SV) (m : Nat) : Nat := match slotOf ren m with
  | some t => (blkAt fr t).getD m
  | none => m
def renR (ren : List (Nat × Nat)) (fr : List SV) (ρ ρ2 : Nat → Nat) (m : Nat) : Nat := match slotOf ren m with
  | some _ => ρ2 (sig ren fr m)
  | none => ρ m

def siD (ok : SI → Bool) (a b : SI) : List (SI × SI) := if a.beq b && ok a then [] else [(a, b)]
def okSI (nm lo sz : Nat) (a : SI) : Bool := a.av nm (nm + 64) && a.av lo (lo + sz)

/-- The slots that part: other values; numbers of slices that moved. -/
def diffF (ok : SV → Bool) (oki : SI → Bool) (ren : List (Nat × Nat)) (fr0 : List SV) : List SV → List SV → Option (List (SV × SV) × List (SI × SI))
  | [], [] => some ([], [])
  | u :: us, v :: vs => match diffF ok oki ren fr0 us vs with
    | none => none
    | some (d, i) => if v.isDead then some (d, i) else if u.beq v && ok v then some (d, i) else if u.isDead then none else match u, v with
      | .sl b o n c, .sl b' o' n' c' => if (slotOf ren b').isSome && Nat.beq (sig ren fr0 b') b then some (d, siD oki o o' ++ (siD oki n n' ++ (siD oki c c' ++ i))) else some ((u, v) :: d, i)
      | _, _ => some ((u, v) :: d, i)
  | _, _ => none

section
variable {G : Type}
theorem siD_den {ok : SI → Bool} {ν ν' : Env G} (hok : ∀ a, ok a = true → a.den ν = a.den ν') {a b : SI} (h : ∀ y ∈ siD ok a b, y.1.den ν = y.2.den ν') : a.den ν = b.den ν' := by
  unfold siD at h
  split at h
  · rename_i hb
    simp only [Bool.and_eq_true] at hb
    rw [← SI.beq_eq hb.1]
    exact hok a hb.2
  · exact h (a, b) (by simp)

theorem diffF_den {ok : SV → Bool} {oki : SI → Bool} {ren : List (Nat × Nat)} {fr0 : List SV} {ν ν' : Env G} {ρ ρ2 : Nat → Nat} (hok : ∀ v, ok v = true → v.den ν ρ2 = v.den ν' (renR ren fr0 ρ ρ2)) (hoki : ∀ a, oki a = true → a.den ν = a.den ν') :
    ∀ {us vs : List SV} {d : List (SV × SV)} {i : List (SI × SI)}, diffF ok oki ren fr0 us vs = some (d, i) → (∀ x ∈ d, x.1.den ν ρ2 = x.2.den ν' (renR ren fr0 ρ ρ2)) → (∀ x ∈ i, x.1.den ν = x.2.den ν') →
    us.length = vs.length ∧ ∀ (t : Nat) (v : SV), vs[t]? = some v → v.isDead = false → ∃ u, us[t]? = some u ∧ u.isDead = false ∧ u.den ν ρ2 = v.den ν' (renR ren fr0 ρ ρ2)
  | [], [], _, _, _, _, _ => ⟨rfl, fun t v h => by simp at h⟩
  | [], _ :: _, _, _, h, _, _ => by simp [diffF] at h
  | _ :: _, [], _, _, h, _, _ => by simp [diffF] at h
  | u :: us, v :: vs, d, i, h, hd, hi => by
    unfold diffF at h
    split at h
    · cases h
    · rename_i d0 i0 h0
      have key : (∀ x ∈ d0, x.1.den ν ρ2 = x.2.den ν' (renR ren fr0 ρ ρ2)) → (∀ x ∈ i0, x.1.den ν = x.2.den ν') → (v.isDead = false → u.isDead = false ∧ u.den ν ρ2 = v.den ν' (renR ren fr0 ρ ρ2)) → (u :: us).length = (v :: vs).length ∧ ∀ (t : Nat) (x : SV), (v :: vs)[t]? = some x → x.isDead = false → ∃ y, (u :: us)[t]? = some y ∧ y.isDead = false ∧ y.den ν ρ2 = x.den ν' (renR ren fr0 ρ ρ2) := by
        intro hd0 hi0 hv
        obtain ⟨e1, e2⟩ := diffF_den hok hoki h0 hd0 hi0
        refine ⟨by simp [e1], fun t x hx hdead => ?_⟩
        cases t with
        | zero =>
          simp only [List.getElem?_cons_zero, Option.some.injEq] at hx
          subst hx
          exact ⟨u, rfl, hv hdead⟩
        | succ t => simpa using e2 t x (by simpa using hx) hdead
      split at h
      · rename_i hdead
        cases h
        exact key hd hi (fun hd' => by rw [hdead] at hd'; cases hd')
      · rename_i hdead
        split at h
        · rename_i hb
          simp only [Bool.and_eq_true] at hb
          cases h
          have hbe := SV.beq_eq hb.1
          subst hbe
          exact key hd hi (fun hd' => ⟨hd', hok u hb.2⟩)
        · rename_i hnb
          split at h
          · cases h
          · rename_i hud0
            have hud : u.isDead = false := by simpa using hud0
            split at h
            · rename_i b o n c b' o' n' c'
              split at h
              · rename_i hs
                simp only [Bool.and_eq_true] at hs
                cases h
                have e := Nat.eq_of_beq_eq_true hs.2
                have hi' : ∀ x ∈ i0, x.1.den ν = x.2.den ν' := fun x hx => hi x (by simp [hx])
                refine key hd hi' (fun _ => ⟨hud, ?_⟩)
                have d1 := siD_den hoki (a := o) (b := o') (fun y hy => hi y (by simp [hy]))
                have d2 := siD_den hoki (a := n) (b := n') (fun y hy => hi y (by simp [hy]))
                have d3 := siD_den hoki (a := c) (b := c') (fun y hy => hi y (by simp [hy]))
                have d4 : renR ren fr0 ρ ρ2 b' = ρ2 b := by
                  unfold renR
                  cases hsl : slotOf ren b' with
                  | none => rw [hsl] at hs; simp at hs
                  | some t => simp only; rw [e]
                simp only [SV.den, d1, d2, d3, d4]
              · cases h
                exact key (fun x hx => hd x (by simp [hx])) hi (fun _ => ⟨hud, hd _ (List.mem_cons_self ..)⟩)
            · cases h
              exact key (fun x hx => hd x (by simp [hx])) hi (fun _ => ⟨hud, hd (u, v) (by simp)⟩)

theorem FR.diffF {ok : SV → Bool} {oki : SI → Bool} {ren : List (Nat × Nat)} {fr0 : List SV} {ν ν' : Env G} {ρ ρ2 : Nat → Nat} (hok : ∀ v, ok v = true → v.den ν ρ2 = v.den ν' (renR ren fr0 ρ ρ2)) (hoki : ∀ a, oki a = true → a.den ν = a.den ν')
    {us vs : List SV} {d : List (SV × SV)} {i : List (SI × SI)} (h : Go.Sy.diffF ok oki ren fr0 us vs = some (d, i)) (hd : ∀ x ∈ d, x.1.den ν ρ2 = x.2.den ν' (renR ren fr0 ρ ρ2)) (hi : ∀ x ∈ i, x.1.den ν = x.2.den ν') {act : Act} (hf : FR ν ρ2 us act) : FR ν' (renR ren fr0 ρ ρ2) vs act := by
  obtain ⟨e1, e2⟩ := diffF_den hok hoki h hd hi
  refine ⟨by rw [hf.size, e1], fun t v hv hdead => ?_, hf.defers⟩
  obtain ⟨u, hu, hud, hden⟩ := e2 t v hv hdead
  rw [hf.tmps t u hu hud, hden]

/-! the heap -/
def nodupB : List Nat → Bool
  | [] => true
  | n :: r => !(r.any (Nat.beq n)) && nodupB r
theorem nodupB_nd : ∀ {l : List Nat}, nodupB l = true → l.Nodup
  | [], _ => List.nodup_nil
  | n :: r, h => by
    simp only [nodupB, Bool.and_eq_true, Bool.not_eq_true'] at h
    refine List.nodup_cons.2 ⟨fun hm => ?_, nodupB_nd h.2⟩
    have := List.any_eq_false.1 h.1 n hm
    simp at this

/-- A block against the head's: numbers, lists. -/
def blkD (P : Program) (ok : SBk → Bool) (oki : SI → Bool) (moved : Bool) (b c : SBk) : Option (List (SI × SI) × List (SL × SL)) :=
  if !moved && b.beq c && ok b then some ([], []) else match c with
  | .row k l' e' t => match asRow P b with
    | some (j, l, e, t') => if kBeq j k && Nat.beq t' t then some (siD oki e e', [(l, l')]) else none
    | none => none
  | _ => none
def diffM (P : Program) (okn : Nat → Bool) (ok : SBk → Bool) (oki : SI → Bool) (ren : List (Nat × Nat)) (fr0 : List SV) (us : Heap) : Heap → Option (List (SI × SI) × List (SL × SL))
  | [] => some ([], [])
  | (m, c) :: vs => match hget (sig ren fr0 m) us with
    | none => none
    | some b => if (slotOf ren m).isSome || okn m then (match blkD P ok oki (slotOf ren m).isSome b c, diffM P okn ok oki ren fr0 us vs with
      | some x, some y => some (x.1 ++ y.1, x.2 ++ y.2)
      | _, _ => none) else none

variable {P : Program}
theorem blkD_den {ok : SBk → Bool} {oki : SI → Bool} {moved : Bool} {B : Base} {ν ν' : Env G} {ρ ρ' : Nat → Nat} {n m : Nat} (hnm : ρ' m = ρ n) (hok : moved = false → n = m ∧ ∀ b, ok b = true → ∀ w F, BlkDen B ν ρ w F n b → BlkDen B ν' ρ' w F m b) (hoki : ∀ a, oki a = true → a.den ν = a.den ν') {b c : SBk} {i : List (SI × SI)} {l : List (SL × SL)}
    (h : blkD P ok oki moved b c = some (i, l)) (hi : ∀ x ∈ i, x.1.den ν = x.2.den ν') (hl : ∀ y ∈ l, y.1.den ν = y.2.den ν') {us : Heap} {w : World} (hw : HW B ν ρ us w) (hm : (n, b) ∈ us) {F : Nat → Prop} (hd : BlkDen B ν ρ w F n b) : BlkDen B ν' ρ' w F m c := by
  unfold blkD at h
  split at h
  · rename_i hb
    simp only [Bool.and_eq_true, Bool.not_eq_true'] at hb
    have := SBk.beq_eq hb.1.2
    subst this
    exact (hok hb.1.1).2 b hb.2 w F hd
  · rename_i hnb
    split at h
    · rename_i k l' e' t
      split at h
      · rename_i j l0 e t' har
        split at h
        · rename_i hk
          simp only [Bool.and_eq_true] at hk
          have e1 := kBeq_eq hk.1
          have e2 := Nat.eq_of_beq_eq_true hk.2
          subst e1 e2
          cases h
          obtain ⟨rest, r1, r2, r3⟩ := asRow_den hw hm har
          have hF := BlkDen.single (asRow_nores har) hd
          have d1 := siD_den hoki (a := e) (b := e') hi
          have d2 := hl (l0, l') (by simp)
          simp only at d2
          simp only [BlkDen]
          rw [hnm, ← d1, ← d2]
          exact ⟨⟨rest, r1, r2, r3⟩, hF⟩
        · cases h
      · cases h
    · cases h

theorem HW.diffM {okn : Nat → Bool} {ok : SBk → Bool} {oki : SI → Bool} {ren : List (Nat × Nat)} {fr0 : List SV} {B : Base} {ν ν' : Env G} {ρ ρ2 : Nat → Nat}
    (hn : ∀ n, okn n = true → ρ n = ρ2 n) (hok : ∀ n b, okn n = true → ok b = true → ∀ w F, BlkDen B ν ρ2 w F n b → BlkDen B ν' (renR ren fr0 ρ ρ2) w F n b) (hoki : ∀ a, oki a = true → a.den ν = a.den ν') {us : Heap} {w : World} (hw : HW B ν ρ2 us w) {vs : Heap} {i : List (SI × SI)} {l : List (SL × SL)}
    (h : Go.Sy.diffM P okn ok oki ren fr0 us vs = some (i, l)) (hnd : nodupB (vs.map (·.1)) = true) (hinj : nodupB (vs.map fun x => sig ren fr0 x.1) = true) (hi : ∀ x ∈ i, x.1.den ν = x.2.den ν') (hl : ∀ y ∈ l, y.1.den ν = y.2.den ν') : HW B ν' (renR ren fr0 ρ ρ2) vs w := by
  obtain ⟨F, f1, f2, f3⟩ := hw.foot
  have key : ∀ {ws : Heap} {i : List (SI × SI)} {l : List (SL × SL)}, Go.Sy.diffM P okn ok oki ren fr0 us ws = some (i, l) → (∀ x ∈ i, x.1.den ν = x.2.den ν') → (∀ y ∈ l, y.1.den ν = y.2.den ν') → ∀ m c, (m, c) ∈ ws → ∃ b, (sig ren fr0 m, b) ∈ us ∧ BlkDen B ν' (renR ren fr0 ρ ρ2) w (F (sig ren fr0 m)) m c := by
    intro ws
    induction ws with
    | nil => intro i l _ _ _ m c hm; cases hm
    | cons x ws ih =>
      obtain ⟨m0, c0⟩ := x
      intro i l h hi hl m c hm
      unfold Go.Sy.diffM at h
      split at h
      · cases h
      · rename_i b hb
        split at h
        · rename_i hs
          split at h
          · rename_i x y hx hy
            cases h
            rcases List.mem_cons.1 hm with hm | hm
            · cases hm
              refine ⟨b, hget_mem hb, ?_⟩
              have hmem := hget_mem hb
              refine blkD_den (ρ := ρ2) (n := sig ren fr0 m0) ?_ ?_ hoki hx (fun z hz => hi z (List.mem_append_left _ hz)) (fun z hz => hl z (List.mem_append_left _ hz)) hw hmem (f1 _ _ hmem)
              · unfold renR
                cases hsl : slotOf ren m0 with
                | some t => rfl
                | none =>
                  rw [hsl] at hs
                  have e : sig ren fr0 m0 = m0 := by unfold sig; rw [hsl]
                  rw [e]
                  exact hn m0 (by simpa using hs)
              · intro hmv
                have hsl : slotOf ren m0 = none := by
                  cases h0 : slotOf ren m0 with
                  | none => rfl
                  | some t => rw [h0] at hmv; cases hmv
                have e : sig ren fr0 m0 = m0 := by unfold sig; rw [hsl]
                rw [hsl] at hs
                refine ⟨e, fun b' hb' w' F' hd' => ?_⟩
                rw [e] at hd'
                exact hok m0 b' (by simpa using hs) hb' w' F' hd'
            · exact ih hy (fun z hz => hi z (List.mem_append_right _ hz)) (fun z hz => hl z (List.mem_append_right _ hz)) m c hm
          · cases h
        · cases h
  refine ⟨hw.os, hw.tape, hw.output, hw.size, hw.kept, nodupB_nd hnd, fun m => F (sig ren fr0 m), fun m c hm => ?_, fun m c k hm hk => ?_, fun m c m' c' k hm hm' hk hk' => ?_⟩
  · obtain ⟨b, _, hb⟩ := key h hi hl m c hm
    exact hb
  · obtain ⟨b, hb, _⟩ := key h hi hl m c hm
    exact f2 _ b k hb hk
  · obtain ⟨b, hb, _⟩ := key h hi hl m c hm
    obtain ⟨b', hb', _⟩ := key h hi hl m' c' hm'
    have e := f3 _ b _ b' k hb hb' hk hk'
    have nd := nodupB_nd hinj
    have inj : ∀ {ws : Heap}, (ws.map fun x => sig ren fr0 x.1).Nodup → (m, c) ∈ ws → (m', c') ∈ ws → m = m' := by
      intro ws
      induction ws with
      | nil => intro _ h1; cases h1
      | cons x ws ih =>
        intro hnd h1 h2
        simp only [List.map_cons, List.nodup_cons] at hnd
        rcases List.mem_cons.1 h1 with h1 | h1 <;> rcases List.mem_cons.1 h2 with h2 | h2
        · rw [← h1] at h2; cases h2; rfl
        · exact absurd (List.mem_map.2 ⟨(m', c'), h2, by rw [← h1]; exact e.symm⟩) hnd.1
        · exact absurd (List.mem_map.2 ⟨(m, c), h1, by rw [← h2]; exact e⟩) hnd.1
        · exact ih hnd.2 h1 h2
    exact inj nd hm hm'
end
end Go.Sy
