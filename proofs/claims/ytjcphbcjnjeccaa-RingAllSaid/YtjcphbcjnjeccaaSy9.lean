import Derived.Test.YtjcphbcjnjeccaaSy8
set_option linter.unusedVariables false
set_option linter.unusedSimpArgs false
namespace Go.Sy
open Go

section
variable {P : Program} {G : Type} {B : Base}

theorem bindL_mem {α β : Type} {f : α → Option (List β)} : ∀ {l : List α} {r : List β}, bindL f l = some r → ∀ x ∈ l, ∃ y, f x = some y ∧ ∀ z ∈ y, z ∈ r
  | [], _, _, x, hx => by cases hx
  | a :: l, r, h, x, hx => by
    unfold bindL at h
    split at h
    · rename_i p q hp hq
      cases h
      rcases List.mem_cons.1 hx with rfl | hx
      · exact ⟨p, hp, fun z hz => List.mem_append_left _ hz⟩
      · obtain ⟨y, hy, hm⟩ := bindL_mem hq x hx
        exact ⟨y, hy, fun z hz => List.mem_append_right _ (hm z hz)⟩
    · cases h

theorem pcB_eq : ∀ {a b : PC}, leafBeq.pcB a b = true → a = b
  | [], [], _ => rfl
  | (c, x) :: r, (d, y) :: s, h => by
    simp only [leafBeq.pcB, Bool.and_eq_true] at h
    rw [SB.beq_eq h.1.1, bBeq_eq h.1.2, pcB_eq h.2]
  | [], _ :: _, h => by simp [leafBeq.pcB] at h
  | _ :: _, [], h => by simp [leafBeq.pcB] at h
theorem hB_eq : ∀ {a b : Heap}, leafBeq.hB a b = true → a = b
  | [], [], _ => rfl
  | (n, x) :: r, (m, y) :: s, h => by
    simp only [leafBeq.hB, Bool.and_eq_true] at h
    rw [Nat.eq_of_beq_eq_true h.1.1, SBk.beq_eq h.1.2, hB_eq h.2]
  | [], _ :: _, h => by simp [leafBeq.hB] at h
  | _ :: _, [], h => by simp [leafBeq.hB] at h
theorem leafBeq_eq {a b : Leaf} (h : leafBeq a b = true) : a = b := by
  obtain ⟨ea, fa, pa, ha⟩ := a
  obtain ⟨eb, fb, pb, hb⟩ := b
  simp only [leafBeq, Bool.and_eq_true] at h
  obtain ⟨⟨⟨h1, h2⟩, h3⟩, h4⟩ := h
  rw [beqL_eq h2, pcB_eq h3, hB_eq h4]
  cases ea <;> cases eb <;> simp at h1
  · rfl
  · rw [h1]
  · rfl
  · rfl
theorem leafsB_eq : ∀ {a b : List Leaf}, leafsB a b = true → a = b
  | [], [], _ => rfl
  | x :: xs, y :: ys, h => by
    simp only [leafsB, Bool.and_eq_true] at h
    rw [leafBeq_eq h.1, leafsB_eq h.2]
  | [], _ :: _, h => by simp [leafsB] at h
  | _ :: _, [], h => by simp [leafsB] at h
theorem bsB_eq : ∀ {a b : List Bool}, bsB a b = true → a = b
  | [], [], _ => rfl
  | x :: xs, y :: ys, h => by
    simp only [bsB, Bool.and_eq_true] at h
    rw [bBeq_eq h.1, bsB_eq h.2]
  | [], _ :: _, h => by simp [bsB] at h
  | _ :: _, [], h => by simp [bsB] at h
def NotBad : SEx → Prop
  | .bad => False
  | _ => True

/-- A leaf holds of a frame and a world. -/
def SatL (lo hi : Nat) (ν0 : Env G) (ρ0 : Nat → Nat) (B : Base) (L : Leaf) (a : Act) (w : World) : Prop :=
  ∃ ν ρ, Agree lo hi ν0 ν ρ0 ρ ∧ pcDen ν L.pc ∧ (NotBad L.ex → FR ν ρ L.fr a ∧ HW B ν ρ L.hp w)

def LQ (Q : Exit → Act → World → Prop) : SEx → Act → World → Prop
  | .normal, a, w => Q .normal a w
  | .exit i, a, w => Q (.exit i) a w
  | .ret, a, w => Q .ret a w
  | .bad, _, _ => False

def RQ (K : Act → World → Prop) (Q : Exit → Act → World → Prop) : SEx → Act → World → Prop
  | .normal, a, w => K a w
  | .exit i, a, w => Q (.exit i) a w
  | .ret, a, w => Q .ret a w
  | .bad, _, _ => False

/-- Whatever 'a' says, 'b' says. -/
structure Cov (a b : Leaf) : Prop where
  ex : a.ex = b.ex
  st : NotBad a.ex → a.fr = b.fr ∧ a.hp = b.hp
  pc : ∀ c ∈ b.pc, c ∈ a.pc
theorem Cov.refl (a : Leaf) : Cov a a := ⟨rfl, fun _ => ⟨rfl, rfl⟩, fun _ h => h⟩
theorem Cov.trans {a b c : Leaf} (h : Cov a b) (g : Cov b c) : Cov a c :=
  ⟨h.ex.trans g.ex, fun hb => ⟨(h.st hb).1.trans (g.st (h.ex ▸ hb)).1, (h.st hb).2.trans (g.st (h.ex ▸ hb)).2⟩, fun x hx => h.pc x (g.pc x hx)⟩
theorem Cov.sat {a b : Leaf} (h : Cov a b) {lo hi : Nat} {ν0 : Env G} {ρ0 : Nat → Nat} {B : Base} {act : Act} {w : World} (hs : SatL lo hi ν0 ρ0 B a act w) : SatL lo hi ν0 ρ0 B b act w := by
  obtain ⟨ν, ρ, h1, h2, h3⟩ := hs
  refine ⟨ν, ρ, h1, fun c x hm => h2 c x (h.pc _ hm), fun hb => ?_⟩
  have hb' : NotBad a.ex := h.ex ▸ hb
  obtain ⟨e1, e2⟩ := h.st hb'
  rw [← e1, ← e2]
  exact h3 hb'
theorem exB_eq {a b : SEx} (h : exB a b = true) : a = b := by
  cases a <;> cases b <;> simp only [exB, Bool.false_eq_true] at h <;> first | rfl | rw [Nat.eq_of_beq_eq_true h]
theorem pcHas_mem {c : SB × Bool} : ∀ {p : PC}, pcHas c p = true → c ∈ p
  | [], h => by cases h
  | d :: r, h => by
    simp only [pcHas, Bool.or_eq_true, Bool.and_eq_true] at h
    rcases h with h | h
    · have e : c = d := Prod.ext (SB.beq_eq h.1) (bBeq_eq h.2)
      rw [e]; simp
    · exact List.mem_cons_of_mem _ (pcHas_mem h)
theorem pcSub_mem {p : PC} : ∀ {q : PC}, pcSub p q = true → ∀ c ∈ q, c ∈ p
  | [], _, c, h => by cases h
  | d :: r, h, c, hc => by
    simp only [pcSub, Bool.and_eq_true] at h
    rcases List.mem_cons.1 hc with rfl | hc
    · exact pcHas_mem h.1
    · exact pcSub_mem h.2 c hc
theorem covB_cov {a b : Leaf} (h : covB a b = true) : Cov a b := by
  simp only [covB, Bool.and_eq_true] at h
  refine ⟨exB_eq h.1.1, fun hb => ?_, pcSub_mem h.2⟩
  have h2 := h.1.2
  cases hex : a.ex with
  | bad => rw [hex] at hb; exact hb.elim
  | normal => rw [hex] at h2; simp only [Bool.and_eq_true] at h2; exact ⟨beqL_eq h2.1, hB_eq h2.2⟩
  | ret => rw [hex] at h2; simp only [Bool.and_eq_true] at h2; exact ⟨beqL_eq h2.1, hB_eq h2.2⟩
  | exit i => rw [hex] at h2; simp only [Bool.and_eq_true] at h2; exact ⟨beqL_eq h2.1, hB_eq h2.2⟩
def CovL (t u : List Leaf) : Prop := ∀ L ∈ t, ∃ M ∈ u, Cov L M
theorem addL_cov : ∀ {t u : List Leaf}, (∀ M ∈ u, M ∈ addL t u) ∧ CovL t (addL t u)
  | [], u => ⟨fun _ h => h, fun L h => by cases h⟩
  | a :: t, u => by
    unfold addL
    split
    · rename_i hb
      obtain ⟨M, hM, hc⟩ := List.any_eq_true.1 hb
      obtain ⟨h1, h2⟩ := addL_cov (t := t) (u := u)
      refine ⟨h1, fun L hL => ?_⟩
      rcases List.mem_cons.1 hL with rfl | hL
      · exact ⟨M, h1 M hM, covB_cov hc⟩
      · exact h2 L hL
    · obtain ⟨h1, h2⟩ := addL_cov (t := t) (u := u ++ [a])
      refine ⟨fun M hM => h1 M (List.mem_append_left _ hM), fun L hL => ?_⟩
      rcases List.mem_cons.1 hL with rfl | hL
      · exact ⟨L, h1 L (by simp), Cov.refl L⟩
      · exact h2 L hL
/-- A frontier's state is met by another one. -/
def CovF (x : List Bool × List Leaf) (F : Front) : Prop := ∃ u, (x.1, u) ∈ F ∧ CovL x.2 u
theorem CovF.of_mem {x : List Bool × List Leaf} {F : Front} (h : x ∈ F) : CovF x F := ⟨x.2, h, fun L hL => ⟨L, hL, Cov.refl L⟩⟩
theorem CovF.trans {x : List Bool × List Leaf} {F F' : Front} (h : CovF x F) (g : ∀ y ∈ F, CovF y F') : CovF x F' := by
  obtain ⟨u, hu, hc⟩ := h
  obtain ⟨v, hv, hc'⟩ := g _ hu
  refine ⟨v, hv, fun L hL => ?_⟩
  obtain ⟨M, hM, c1⟩ := hc L hL
  obtain ⟨N, hN, c2⟩ := hc' M hM
  exact ⟨N, hN, c1.trans c2⟩
theorem merge_mem {l : List Bool} {t : List Leaf} : ∀ {F G : Front}, merge l t F = some G → CovF (l, t) G ∧ ∀ x ∈ F, CovF x G
  | [], G, h => by simp only [merge, Option.some.injEq] at h; subst h; exact ⟨CovF.of_mem (by simp), fun x hx => by cases hx⟩
  | (m, u) :: r, G, h => by
    unfold merge at h
    split at h
    · rename_i hb
      cases h
      obtain ⟨h1, h2⟩ := addL_cov (t := t) (u := u)
      rw [bsB_eq hb]
      refine ⟨⟨_, List.mem_cons_self .., h2⟩, fun x hx => ?_⟩
      rcases List.mem_cons.1 hx with rfl | hx
      · exact ⟨_, List.mem_cons_self .., fun L hL => ⟨L, h1 L hL, Cov.refl L⟩⟩
      · exact CovF.of_mem (List.mem_cons_of_mem _ hx)
    · simp only [Option.map_eq_some_iff] at h
      obtain ⟨G', hG, rfl⟩ := h
      obtain ⟨h1, h2⟩ := merge_mem hG
      have up : ∀ {x}, CovF x G' → CovF x ((m, u) :: G') := fun ⟨v, hv, hc⟩ => ⟨v, List.mem_cons_of_mem _ hv, hc⟩
      refine ⟨up h1, fun x hx => ?_⟩
      rcases List.mem_cons.1 hx with rfl | hx
      · exact CovF.of_mem (List.mem_cons_self ..)
      · exact up (h2 x hx)

theorem wantX_sound {ν : Env G} {ρ : Nat → Nat} {ops : Array Oper} {fr : List SV} {pc : PC} {o : Oper} {a : Act} {ws : List (PC × Bool)} (h : wantX ops fr pc o = some ws) (hf : FR ν ρ fr a) (hpc : pcDen ν pc) :
    ∃ x ∈ ws, pcDen ν x.1 ∧ Region.wanted o (yielded ops a.tmps) = x.2 := by
  unfold wantX at h
  split at h
  · rename_i hg
    cases h
    exact ⟨([], true), by simp, pcDen_nil ν, by simp [Region.wanted, hg]⟩
  · rename_i g want hg
    split at h
    · rename_i hd
      cases h
      refine ⟨([], false), by simp, pcDen_nil ν, ?_⟩
      simp [Region.wanted, hg, yielded, hd]
    · rename_i d hd
      have hy0 : yielded ops a.tmps g = match a.tmps[d]? with | some (.bool b) => some b | _ => none := by
        unfold yielded
        rw [hd]
        simp only [Option.bind_some]
        cases a.tmps[d]? with
        | none => rfl
        | some v => cases v <;> rfl
      have hy : ∀ v, fr[d]? = some v → v.isDead = false → yielded ops a.tmps g = match v.den ν ρ with | .bool b => some b | _ => none := by
        intro v hv hdv
        rw [hy0, hf.tmps d v hv hdv]
        cases v.den ν ρ <;> rfl
      split at h
      · rename_i e he
        replace hy := hy _ he rfl
        simp only [SV.den] at hy
        split at h
        · rename_i b hb
          cases h
          have := SB.known_den hpc hb
          refine ⟨([], bBeq b want), by simp, pcDen_nil ν, ?_⟩
          simp only [Region.wanted, hg, hy, this]
          cases b <;> cases want <;> rfl
        · cases h
          cases hq : e.den ν
          · refine ⟨([asm e false], !want), by simp, pcDen_asm1 hq, ?_⟩
            simp only [Region.wanted, hg, hy, hq]
            cases want <;> rfl
          · refine ⟨([asm e true], want), by simp, pcDen_asm1 hq, ?_⟩
            simp only [Region.wanted, hg, hy, hq]
            cases want <;> rfl
      · cases h
      · cases h
      · cases h
      · cases h
      · rename_i hno1 hno2 hno4 hno5 hno3
        cases h
        refine ⟨([], false), by simp, pcDen_nil ν, ?_⟩
        have : yielded ops a.tmps g = none := by
          cases hx : fr[d]? with
          | none =>
            have h1 : fr.length ≤ d := List.getElem?_eq_none_iff.1 hx
            rw [hy0, Array.getElem?_eq_none (by rw [hf.size]; exact h1)]
          | some s =>
            cases s with
            | bool e => exact absurd hx (hno1 e)
            | opq i => exact absurd hx (hno2 i)
            | dead => exact absurd hx hno3
            | gv f g i => exact absurd hx (hno4 f g i)
            | osl b l c => exact absurd hx (hno5 b l c)
            | _ => rw [hy _ hx rfl]; simp [SV.den]
        simp [Region.wanted, hg, this]

def resOne (tmps : Array Value) : ResultVar → Sem Value
  | .tmp t => pure (tmps.getD t undef)
  | .cell a t => do loadVar t (← asAddr (tmps.getD a undef))

theorem resX_sound {ν : Env G} {ρ : Nat → Nat} {hp : Heap} {w : World} (hw : HW B ν ρ hp w) {fr : List SV} {a : Act} (hf : FR ν ρ fr a) : ∀ {rs : List ResultVar} {vs : List SV}, resX P fr hp rs = some vs →
    (rs.mapM (resOne a.tmps)).run P w = .ok (denL ν ρ vs) w
  | [], vs, h => by simp only [resX, Option.some.injEq] at h; subst h; simp [denL]
  | .tmp t :: r, vs, h => by
    unfold resX at h
    split at h
    · cases h
    · rename_i hdd
      simp only [Option.map_eq_some_iff] at h
      obtain ⟨vs', hv, rfl⟩ := h
      have hg : (resOne a.tmps (.tmp t)).run P w = .ok ((fget fr t).den ν ρ) w := by
        simp only [resOne, Sem.run_pure, hf.get (by simpa using hdd)]
      simp only [List.mapM_cons, Sem.run_bind, hg, Result.andThen_ok, resX_sound hw hf hv, Sem.run_pure, denL]
  | .cell q t :: r, vs, h => by
    unfold resX at h
    split at h
    · rename_i v vs' hv hvs
      cases h
      have hnd : (fget fr q).isDead = false := by
        unfold loadX at hv
        split at hv
        · rename_i b off heq; rw [heq]; rfl
        · cases hv
      have hg : a.tmps.getD q undef = (fget fr q).den ν ρ := hf.get hnd
      obtain ⟨x0, hx0, _, hl0⟩ := loadX_run hw (pcDen_nil ν) hv
      have hx1 := List.mem_singleton.1 hx0
      subst hx1
      have hl := hl0 v rfl
      have hp : ∃ x, (fget fr q).den ν ρ = .pointer (some x) := by
        unfold loadX at hv
        split at hv
        · rename_i b off heq; rw [heq]; exact ⟨_, rfl⟩
        · cases hv
      obtain ⟨x, hx⟩ := hp
      rw [hx] at hl hg
      simp only [Instr.loadAt, Instr.sureAddr, Sem.run_bind, Sem.run_pure, Result.andThen_ok] at hl
      have ho : (resOne a.tmps (.cell q t)).run P w = .ok (v.den ν ρ) w := by
        simp only [resOne, Sem.run_bind, hg, asAddr, Sem.run_pure, Result.andThen_ok, hl]
      simp only [List.mapM_cons, Sem.run_bind, ho, Result.andThen_ok, resX_sound hw hf hvs, Sem.run_pure, denL]
    · cases h

theorem results_sound {ν : Env G} {ρ : Nat → Nat} {hp : Heap} {w : World} (hw : HW B ν ρ hp w) {fn : Func} {fr : List SV} {a : Act} (hf : FR ν ρ fr a) {vs : List SV} (h : resX P fr hp fn.results.toList = some vs) :
    (results fn a.tmps).run P w = .ok ((oneOr vs).den ν ρ) w := by
  have h1 := resX_sound (P := P) hw hf h
  have he : results fn a.tmps = (do let vs ← fn.results.mapM (resOne a.tmps); pure (if h : vs.size = 1 then vs[0] else .tuple vs)) := rfl
  rw [he, Array.mapM_eq_mapM_toList]
  simp only [Sem.run_bind, Sem.run_map, h1, Result.andThen_ok, Sem.run_pure]
  congr 1
  match vs with
  | [] => simp [denL, oneOr, SV.den]
  | [x] => simp [denL, oneOr]
  | x :: y :: r => simp [denL, oneOr, SV.den]
end
end Go.Sy
