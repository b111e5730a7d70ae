import Derived.Test.YtoogepoalbhlhaaSy8
set_option linter.unusedVariables false
set_option linter.unusedSimpArgs false
namespace Go.Sy
open Go

section
variable {P : Program} {G : Type} {B : Base}

theorem bindL_mem {α β : Type} {f : α → Option (List β)} : ∀ {l : List α} {r : List β}, bindL f l = some r → ∀ x ∈ l, ∃ y, f x = some y ∧ ∀ z ∈ y, z ∈ r
  | [], _, _, x, hx => by cases hx
  | a :: l, r, h, x, hx => by
    unfold bindL at h
    split at h
    · rename_i p q hp hq
      cases h
      rcases List.mem_cons.1 hx with rfl | hx
      · exact ⟨p, hp, fun z hz => List.mem_append_left _ hz⟩
      · obtain ⟨y, hy, hm⟩ := bindL_mem hq x hx
        exact ⟨y, hy, fun z hz => List.mem_append_right _ (hm z hz)⟩
    · cases h

theorem pcB_eq : ∀ {a b : PC}, leafBeq.pcB a b = true → a = b
  | [], [], _ => rfl
  | (c, x) :: r, (d, y) :: s, h => by
    simp only [leafBeq.pcB, Bool.and_eq_true] at h
    rw [SB.beq_eq h.1.1, bBeq_eq h.1.2, pcB_eq h.2]
  | [], _ :: _, h => by simp [leafBeq.pcB] at h
  | _ :: _, [], h => by simp [leafBeq.pcB] at h
theorem hB_eq : ∀ {a b : Heap}, leafBeq.hB a b = true → a = b
  | [], [], _ => rfl
  | (n, x) :: r, (m, y) :: s, h => by
    simp only [leafBeq.hB, Bool.and_eq_true] at h
    rw [Nat.eq_of_beq_eq_true h.1.1, SBk.beq_eq h.1.2, hB_eq h.2]
  | [], _ :: _, h => by simp [leafBeq.hB] at h
  | _ :: _, [], h => by simp [leafBeq.hB] at h
theorem leafBeq_eq {a b : Leaf} (h : leafBeq a b = true) : a = b := by
  obtain ⟨ea, fa, pa, ha⟩ := a
  obtain ⟨eb, fb, pb, hb⟩ := b
  simp only [leafBeq, Bool.and_eq_true] at h
  obtain ⟨⟨⟨h1, h2⟩, h3⟩, h4⟩ := h
  rw [beqL_eq h2, pcB_eq h3, hB_eq h4]
  cases ea <;> cases eb <;> simp at h1
  · rfl
  · rw [h1]
  · rfl
  · rfl
theorem leafsB_eq : ∀ {a b : List Leaf}, leafsB a b = true → a = b
  | [], [], _ => rfl
  | x :: xs, y :: ys, h => by
    simp only [leafsB, Bool.and_eq_true] at h
    rw [leafBeq_eq h.1, leafsB_eq h.2]
  | [], _ :: _, h => by simp [leafsB] at h
  | _ :: _, [], h => by simp [leafsB] at h
theorem bsB_eq : ∀ {a b : List Bool}, bsB a b = true → a = b
  | [], [], _ => rfl
  | x :: xs, y :: ys, h => by
    simp only [bsB, Bool.and_eq_true] at h
    rw [bBeq_eq h.1, bsB_eq h.2]
  | [], _ :: _, h => by simp [bsB] at h
  | _ :: _, [], h => by simp [bsB] at h
theorem merge_mem {l : List Bool} {t : List Leaf} : ∀ {F G : Front}, merge l t F = some G → (l, t) ∈ G ∧ ∀ x ∈ F, x ∈ G
  | [], G, h => by simp only [merge, Option.some.injEq] at h; subst h; simp
  | (m, u) :: r, G, h => by
    unfold merge at h
    split at h
    · rename_i hb
      split at h
      · rename_i ht
        cases h
        rw [bsB_eq hb, leafsB_eq ht]
        simp
      · cases h
    · simp only [Option.map_eq_some_iff] at h
      obtain ⟨G', hG, rfl⟩ := h
      obtain ⟨h1, h2⟩ := merge_mem hG
      refine ⟨List.mem_cons_of_mem _ h1, fun x hx => ?_⟩
      rcases List.mem_cons.1 hx with rfl | hx
      · simp
      · exact List.mem_cons_of_mem _ (h2 x hx)

def NotBad : SEx → Prop
  | .bad => False
  | _ => True

/-- A leaf holds of a frame and a world. -/
def SatL (lo hi : Nat) (ν0 : Env G) (ρ0 : Nat → Nat) (B : Base) (L : Leaf) (a : Act) (w : World) : Prop :=
  ∃ ν ρ, Agree lo hi ν0 ν ρ0 ρ ∧ pcDen ν L.pc ∧ (NotBad L.ex → FR ν ρ L.fr a ∧ HW B ν ρ L.hp w)

def LQ (Q : Exit → Act → World → Prop) : SEx → Act → World → Prop
  | .normal, a, w => Q .normal a w
  | .exit i, a, w => Q (.exit i) a w
  | .ret, a, w => Q .ret a w
  | .bad, _, _ => False

def RQ (K : Act → World → Prop) (Q : Exit → Act → World → Prop) : SEx → Act → World → Prop
  | .normal, a, w => K a w
  | .exit i, a, w => Q (.exit i) a w
  | .ret, a, w => Q .ret a w
  | .bad, _, _ => False

theorem wantX_sound {ν : Env G} {ρ : Nat → Nat} {ops : Array Oper} {fr : List SV} {pc : PC} {o : Oper} {a : Act} {ws : List (PC × Bool)} (h : wantX ops fr pc o = some ws) (hf : FR ν ρ fr a) (hpc : pcDen ν pc) :
    ∃ x ∈ ws, pcDen ν x.1 ∧ Region.wanted o (yielded ops a.tmps) = x.2 := by
  unfold wantX at h
  split at h
  · rename_i hg
    cases h
    exact ⟨([], true), by simp, pcDen_nil ν, by simp [Region.wanted, hg]⟩
  · rename_i g want hg
    split at h
    · rename_i hd
      cases h
      refine ⟨([], false), by simp, pcDen_nil ν, ?_⟩
      simp [Region.wanted, hg, yielded, hd]
    · rename_i d hd
      have hy0 : yielded ops a.tmps g = match a.tmps[d]? with | some (.bool b) => some b | _ => none := by
        unfold yielded
        rw [hd]
        simp only [Option.bind_some]
        cases a.tmps[d]? with
        | none => rfl
        | some v => cases v <;> rfl
      have hy : ∀ v, fr[d]? = some v → v.isDead = false → yielded ops a.tmps g = match v.den ν ρ with | .bool b => some b | _ => none := by
        intro v hv hdv
        rw [hy0, hf.tmps d v hv hdv]
        cases v.den ν ρ <;> rfl
      split at h
      · rename_i e he
        replace hy := hy _ he rfl
        simp only [SV.den] at hy
        split at h
        · rename_i b hb
          cases h
          have := SB.known_den hpc hb
          refine ⟨([], bBeq b want), by simp, pcDen_nil ν, ?_⟩
          simp only [Region.wanted, hg, hy, this]
          cases b <;> cases want <;> rfl
        · cases h
          cases hq : e.den ν
          · refine ⟨([asm e false], !want), by simp, pcDen_asm1 hq, ?_⟩
            simp only [Region.wanted, hg, hy, hq]
            cases want <;> rfl
          · refine ⟨([asm e true], want), by simp, pcDen_asm1 hq, ?_⟩
            simp only [Region.wanted, hg, hy, hq]
            cases want <;> rfl
      · cases h
      · cases h
      · rename_i hno1 hno2 hno3
        cases h
        refine ⟨([], false), by simp, pcDen_nil ν, ?_⟩
        have : yielded ops a.tmps g = none := by
          cases hx : fr[d]? with
          | none =>
            have h1 : fr.length ≤ d := List.getElem?_eq_none_iff.1 hx
            rw [hy0, Array.getElem?_eq_none (by rw [hf.size]; exact h1)]
          | some s =>
            cases s with
            | bool e => exact absurd hx (hno1 e)
            | opq i => exact absurd hx (hno2 i)
            | dead => exact absurd hx hno3
            | _ => rw [hy _ hx rfl]; simp [SV.den]
        simp [Region.wanted, hg, this]

def resOne (tmps : Array Value) : ResultVar → Sem Value
  | .tmp t => pure (tmps.getD t undef)
  | .cell a t => do loadVar t (← asAddr (tmps.getD a undef))

theorem resX_sound {ν : Env G} {ρ : Nat → Nat} {hp : Heap} {w : World} (hw : HW B ν ρ hp w) {fr : List SV} {a : Act} (hf : FR ν ρ fr a) : ∀ {rs : List ResultVar} {vs : List SV}, resX P fr hp rs = some vs →
    (rs.mapM (resOne a.tmps)).run P w = .ok (denL ν ρ vs) w
  | [], vs, h => by simp only [resX, Option.some.injEq] at h; subst h; simp [denL]
  | .tmp t :: r, vs, h => by
    unfold resX at h
    split at h
    · cases h
    · rename_i hdd
      simp only [Option.map_eq_some_iff] at h
      obtain ⟨vs', hv, rfl⟩ := h
      have hg : (resOne a.tmps (.tmp t)).run P w = .ok ((fget fr t).den ν ρ) w := by
        simp only [resOne, Sem.run_pure, hf.get (by simpa using hdd)]
      simp only [List.mapM_cons, Sem.run_bind, hg, Result.andThen_ok, resX_sound hw hf hv, Sem.run_pure, denL]
  | .cell q t :: r, vs, h => by
    unfold resX at h
    split at h
    · rename_i v vs' hv hvs
      cases h
      have hnd : (fget fr q).isDead = false := by
        unfold loadX at hv
        split at hv
        · rename_i b off heq; rw [heq]; rfl
        · cases hv
      have hg : a.tmps.getD q undef = (fget fr q).den ν ρ := hf.get hnd
      obtain ⟨x0, hx0, _, hl0⟩ := loadX_run hw (pcDen_nil ν) hv
      have hx1 := List.mem_singleton.1 hx0
      subst hx1
      have hl := hl0 v rfl
      have hp : ∃ x, (fget fr q).den ν ρ = .pointer (some x) := by
        unfold loadX at hv
        split at hv
        · rename_i b off heq; rw [heq]; exact ⟨_, rfl⟩
        · cases hv
      obtain ⟨x, hx⟩ := hp
      rw [hx] at hl hg
      simp only [Instr.loadAt, Instr.sureAddr, Sem.run_bind, Sem.run_pure, Result.andThen_ok] at hl
      have ho : (resOne a.tmps (.cell q t)).run P w = .ok (v.den ν ρ) w := by
        simp only [resOne, Sem.run_bind, hg, asAddr, Sem.run_pure, Result.andThen_ok, hl]
      simp only [List.mapM_cons, Sem.run_bind, ho, Result.andThen_ok, resX_sound hw hf hvs, Sem.run_pure, denL]
    · cases h

theorem results_sound {ν : Env G} {ρ : Nat → Nat} {hp : Heap} {w : World} (hw : HW B ν ρ hp w) {fn : Func} {fr : List SV} {a : Act} (hf : FR ν ρ fr a) {vs : List SV} (h : resX P fr hp fn.results.toList = some vs) :
    (results fn a.tmps).run P w = .ok ((oneOr vs).den ν ρ) w := by
  have h1 := resX_sound (P := P) hw hf h
  have he : results fn a.tmps = (do let vs ← fn.results.mapM (resOne a.tmps); pure (if h : vs.size = 1 then vs[0] else .tuple vs)) := rfl
  rw [he, Array.mapM_eq_mapM_toList]
  simp only [Sem.run_bind, Sem.run_map, h1, Result.andThen_ok, Sem.run_pure]
  congr 1
  match vs with
  | [] => simp [denL, oneOr, SV.den]
  | [x] => simp [denL, oneOr]
  | x :: y :: r => simp [denL, oneOr, SV.den]
end
end Go.Sy
