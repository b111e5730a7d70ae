import Derived.Test.YtjcphbcjnjeccaaSy2
set_option linter.unusedVariables false
set_option linter.unusedSimpArgs false
namespace Go.Sy
open Go

/-! ### the smart constructors -/
section
variable {G : Type} (ν : Env G)
theorem SI.mkAdd_den (a b : SI) : (SI.mkAdd a b).den ν = a.den ν + b.den ν := by unfold SI.mkAdd; split <;> simp [SI.den]
theorem SI.mkSub_den (a b : SI) : (SI.mkSub a b).den ν = a.den ν - b.den ν := by unfold SI.mkSub; split <;> simp [SI.den]
theorem SI.mkMul_den (a b : SI) : (SI.mkMul a b).den ν = a.den ν * b.den ν := by unfold SI.mkMul; split <;> simp [SI.den]
theorem SI.mkTdiv_den (a b : SI) : (SI.mkTdiv a b).den ν = (a.den ν).tdiv (b.den ν) := by unfold SI.mkTdiv; split <;> simp [SI.den]
theorem SI.mkTmod_den (a b : SI) : (SI.mkTmod a b).den ν = (a.den ν).tmod (b.den ν) := by unfold SI.mkTmod; split <;> simp [SI.den]
theorem SI.mkFdiv_den (a b : SI) : (SI.mkFdiv a b).den ν = (a.den ν).fdiv (b.den ν) := by unfold SI.mkFdiv; split <;> simp [SI.den]
theorem SI.mkWrap_den (k : IntKind) (a : SI) : (SI.mkWrap k a).den ν = k.wrap (a.den ν) := by unfold SI.mkWrap; split <;> simp [SI.den]
theorem SI.mkNat_den (a : SI) : (SI.mkNat a).den ν = ((a.den ν).toNat : Int) := by unfold SI.mkNat; split <;> simp [SI.den]
theorem SI.mkBits_den (o : Nat) (k : IntKind) (a b : SI) : (SI.mkBits o k a b).den ν = bitsDen o k (a.den ν) (b.den ν) := by unfold SI.mkBits; split <;> simp [SI.den]
theorem SI.mkLen_den : ∀ (l : SL), (SI.mkLen l).den ν = ((l.den ν).length : Int)
  | .nil => by simp [SI.mkLen, SI.den, SL.den]
  | .cons x l => by
    have ih := SI.mkLen_den l
    unfold SI.mkLen
    simp only [SL.den, List.length_cons]
    split
    · rename_i n hn; rw [hn] at ih; simp only [SI.den] at ih ⊢; omega
    · simp only [SI.den, ih]; omega
  | .app a b => by simp [SI.mkLen, SI.mkAdd_den, SI.mkLen_den a, SI.mkLen_den b, SL.den]
  | .set l _ _ => by simp [SI.mkLen, SI.mkLen_den l, SL.den]
  | .rep n _ => by simp [SI.mkLen, SI.mkNat_den, SL.den]
  | .var i => by simp [SI.mkLen, SI.den]
  | .take l n => by simp [SI.mkLen, SI.den]
  | .drop l n => by simp [SI.mkLen, SI.den]
  | .gl f g a b => by simp [SI.mkLen, SI.den]
theorem SI.mkNth_den (l : SL) (i : SI) : (SI.mkNth l i).den ν = (l.den ν).getD (i.den ν).toNat 0 := by
  unfold SI.mkNth
  split
  · simp [SL.den, SI.den]
  · rename_i x l n
    split
    · rename_i y z
      split
      · rename_i hn
        have := Nat.eq_of_beq_eq_true hn
        subst this
        simp [SL.den, SI.den]
      · simp [SI.den]
    · simp [SI.den]
  · simp [SI.den]
theorem SL.mkApp_den : ∀ (a b : SL), (SL.mkApp a b).den ν = a.den ν ++ b.den ν := by
  intro a
  induction a using SL.rec (motive_1 := fun _ => True) (motive_3 := fun _ => True) <;> try trivial
  all_goals (intro b; unfold SL.mkApp; try (split <;> simp [SL.den]))
  all_goals (simp_all [SL.den])
theorem getD_set_same (l : List Int) (n : Nat) : l.set n (l.getD n 0) = l := by
  refine List.ext_getElem (by simp) fun j h1 h2 => ?_
  rw [List.getElem_set]
  split
  · rename_i h; subst h; simp [List.getD_eq_getElem?_getD, h2]
  · rfl
theorem SL.mkSet_den (l : SL) (i x : SI) : (SL.mkSet l i x).den ν = (l.den ν).set (i.den ν).toNat (x.den ν) := by
  unfold SL.mkSet
  split
  · split
    · rename_i h
      simp only [Bool.and_eq_true] at h
      rw [SL.beq_eq h.1, SI.beq_eq h.2]
      simp only [SI.den]
      exact (getD_set_same _ _).symm
    · rfl
  · rfl
theorem SL.takeN_den : ∀ {l : SL} {n : Nat} {t : SL}, SL.takeN l n = some t → t.den ν = (l.den ν).take n
  | l, 0, t, h => by cases l <;> (simp only [SL.takeN, Option.some.injEq] at h; subst h; simp [SL.den])
  | .nil, n + 1, t, h => by simp only [SL.takeN, Option.some.injEq] at h; subst h; simp [SL.den]
  | .cons x l, n + 1, t, h => by
    simp only [SL.takeN] at h
    split at h
    · rename_i u hu; cases h; simp only [SL.den, List.take_succ_cons, SL.takeN_den hu]
    · cases h
  | .var _, n + 1, t, h => by simp [SL.takeN] at h
  | .app _ _, n + 1, t, h => by simp [SL.takeN] at h
  | .set _ _ _, n + 1, t, h => by simp [SL.takeN] at h
  | .take _ _, n + 1, t, h => by simp [SL.takeN] at h
  | .drop _ _, n + 1, t, h => by simp [SL.takeN] at h
  | .rep _ _, n + 1, t, h => by simp [SL.takeN] at h
  | .gl _ _ _ _, n + 1, t, h => by simp [SL.takeN] at h
theorem SL.mkTake_den (l : SL) (n : SI) : (SL.mkTake l n).den ν = (l.den ν).take (n.den ν).toNat := by
  unfold SL.mkTake
  split
  · rename_i h
    rw [← SI.beq_eq h, SI.mkLen_den]
    simp
  · split
    · split
      · rename_i h
        rw [SL.takeN_den _ h]; simp [SI.den]
      · simp [SL.den]
    · simp [SL.den]
theorem SL.dropN_den : ∀ (l : SL) (n : Nat), (SL.dropN l n).den ν = (l.den ν).drop n
  | l, 0 => by cases l <;> simp [SL.dropN]
  | .nil, n + 1 => by simp [SL.dropN, SL.den]
  | .cons x l, n + 1 => by simp only [SL.dropN, SL.den, List.drop_succ_cons]; exact SL.dropN_den l n
  | .var _, n + 1 => by simp [SL.dropN, SL.den, SI.den]
  | .app _ _, n + 1 => by simp [SL.dropN, SL.den, SI.den]
  | .set _ _ _, n + 1 => by simp [SL.dropN, SL.den, SI.den]
  | .take _ _, n + 1 => by simp [SL.dropN, SL.den, SI.den]
  | .drop _ _, n + 1 => by simp [SL.dropN, SL.den, SI.den]
  | .rep _ _, n + 1 => by simp [SL.dropN, SL.den, SI.den]
  | .gl _ _ _ _, n + 1 => by simp [SL.dropN, SL.den, SI.den]
theorem SL.mkDrop_den (l : SL) (n : SI) : (SL.mkDrop l n).den ν = (l.den ν).drop (n.den ν).toNat := by
  unfold SL.mkDrop
  split
  · rw [SL.dropN_den]; simp [SI.den]
  · simp [SL.den]
theorem SB.mkAnd_den (a b : SB) : (SB.mkAnd a b).den ν = (a.den ν && b.den ν) := by
  unfold SB.mkAnd
  split <;> simp [SB.den]
theorem SB.mkNot_den (a : SB) : (SB.mkNot a).den ν = !(a.den ν) := by unfold SB.mkNot; split <;> simp [SB.den]
theorem intBeq_iff (a b : Int) : intBeq a b = (a == b) := by
  cases h : intBeq a b
  · symm
    rw [beq_eq_false_iff_ne]
    rintro rfl
    cases a <;> simp [intBeq] at h
  · rw [intBeq_eq h]; simp
theorem SB.mkEq_den (a b : SI) : (SB.mkEq a b).den ν = (a.den ν == b.den ν) := by
  unfold SB.mkEq
  split
  · simp [SB.den, SI.den, intBeq_iff]
  · split
    · rename_i h; rw [SI.beq_eq h]; simp [SB.den]
    · simp [SB.den]
theorem SB.mkLt_den (a b : SI) : (SB.mkLt a b).den ν = decide (a.den ν < b.den ν) := by
  unfold SB.mkLt
  split
  · rfl
  · split
    · rename_i h; rw [SI.beq_eq h]; simp [SB.den]
    · rfl
theorem SB.mkSame_den (a b : SB) : (SB.mkSame a b).den ν = (a.den ν == b.den ν) := by
  unfold SB.mkSame
  split
  · rename_i h; rw [SB.beq_eq h]; simp [SB.den]
  · rfl
theorem SB.mkLe_den (a b : SI) : (SB.mkLe a b).den ν = decide (a.den ν ≤ b.den ν) := by
  unfold SB.mkLe
  split
  · rfl
  split
  · rename_i h; rw [SI.beq_eq h]; simp [SB.den]
  · simp only [SB.den]
    by_cases h : b.den ν < a.den ν
    · have h2 : ¬ a.den ν ≤ b.den ν := by omega
      simp [h, h2]
    · have h2 : a.den ν ≤ b.den ν := by omega
      simp [h2]
end

section
variable {G : Type}
def pcDen (ν : Env G) (pc : PC) : Prop := ∀ c b, (c, b) ∈ pc → c.den ν = b

theorem pcDen_nil (ν : Env G) : pcDen ν [] := fun _ _ h => by cases h
theorem pcDen_append {ν : Env G} {p q : PC} (h : pcDen ν p) (g : pcDen ν q) : pcDen ν (p ++ q) := fun c b hm => by
  rcases List.mem_append.1 hm with hm | hm
  · exact h c b hm
  · exact g c b hm
theorem pcDen_cons {ν : Env G} {c : SB} {b : Bool} {q : PC} (h : c.den ν = b) (g : pcDen ν q) : pcDen ν ((c, b) :: q) := fun d x hm => by
  rcases List.mem_cons.1 hm with hm | hm
  · cases hm; exact h
  · exact g d x hm
theorem pcDen_one {ν : Env G} {c : SB} {b : Bool} (h : c.den ν = b) : pcDen ν [(c, b)] := pcDen_cons h (pcDen_nil ν)

theorem asm_den {ν : Env G} : ∀ {c : SB} {b : Bool}, c.den ν = b → (asm c b).1.den ν = (asm c b).2 := by
  intro c
  induction c with
  | not a ih =>
    intro b h
    simp only [asm]
    refine ih ?_
    simp only [SB.den] at h
    rw [← h, Bool.not_not]
  | _ => intro b h; exact h
theorem pcDen_asm {ν : Env G} {c : SB} {b : Bool} {q : PC} (h : c.den ν = b) (g : pcDen ν q) : pcDen ν (asm c b :: q) := pcDen_cons (asm_den h) g
theorem pcDen_asm1 {ν : Env G} {c : SB} {b : Bool} (h : c.den ν = b) : pcDen ν [asm c b] := pcDen_asm h (pcDen_nil ν)

theorem pcDen_agree {lo hi : Nat} {ν ν' : Env G} {ρ ρ' : Nat → Nat} (h : Agree lo hi ν ν' ρ ρ') : ∀ {pc : PC}, pav lo hi pc = true → pcDen ν pc → pcDen ν' pc
  | [], _, _ => pcDen_nil ν'
  | (c, b) :: r, hv, hd => by
    simp only [pav, Bool.and_eq_true] at hv
    exact pcDen_cons (by rw [SB.den_agree h c hv.1]; exact hd c b (by simp)) (pcDen_agree h hv.2 fun d x hm => hd d x (by simp [hm]))

theorem pcFind_den {ν : Env G} {c : SB} {x : Bool} : ∀ {pc : PC}, pcDen ν pc → pcFind c pc = some x → c.den ν = x
  | [], _, h => by simp [pcFind] at h
  | (d, b) :: r, hd, h => by
    unfold pcFind at h
    split at h
    · rename_i hb
      rw [← SB.beq_eq hb]
      simp only [Option.some.injEq] at h
      rw [← h]
      exact hd d b (by simp)
    · exact pcFind_den (fun e y hm => hd e y (by simp [hm])) h

theorem SB.known_den {ν : Env G} {pc : PC} (hd : pcDen ν pc) : ∀ {c : SB} {x : Bool}, c.known pc = some x → c.den ν = x := by
  intro c
  induction c with
  | lit b => intro x h; simp only [SB.known, Option.some.injEq] at h; simp [SB.den, h]
  | not a ih =>
    intro x h
    simp only [SB.known, Option.map_eq_some_iff] at h
    obtain ⟨y, hy, rfl⟩ := h
    simp [SB.den, ih hy]
  | and a b iha ihb =>
    intro x h
    simp only [SB.known] at h
    split at h
    · rename_i ha; cases h; simp [SB.den, iha ha]
    · rename_i hb _; cases h; simp [SB.den, ihb hb]
    · rename_i ha hb; cases h; simp [SB.den, iha ha, ihb hb]
    · exact pcFind_den hd h
  | or a b iha ihb =>
    intro x h
    simp only [SB.known] at h
    split at h
    · rename_i ha; cases h; simp [SB.den, iha ha]
    · rename_i hb _; cases h; simp [SB.den, ihb hb]
    · rename_i ha hb; cases h; simp [SB.den, iha ha, ihb hb]
    · exact pcFind_den hd h
  | var i => intro x h; exact pcFind_den hd (by simpa [SB.known] using h)
  | eq a b => intro x h; exact pcFind_den hd (by simpa [SB.known] using h)
  | lt a b => intro x h; exact pcFind_den hd (by simpa [SB.known] using h)
  | le a b => intro x h; exact pcFind_den hd (by simpa [SB.known] using h)
  | same a b => intro x h; exact pcFind_den hd (by simpa [SB.known] using h)
  | gb f g a b => intro x h; exact pcFind_den hd (by simpa [SB.known] using h)

/-- Of what must hold, one way holds. -/
theorem need_den {ν : Env G} : ∀ {cs : List SB} {pc : PC}, pcDen ν pc → ∃ x ∈ need pc cs, pcDen ν x.1 ∧ (x.2 = true → ∀ c ∈ cs, c.den ν = true)
  | [], pc, _ => ⟨([], true), by simp [need], pcDen_nil ν, fun _ c hc => by cases hc⟩
  | c :: r, pc, hd => by
    unfold need
    split
    · rename_i hk
      obtain ⟨x, hx, h1, h2⟩ := need_den (cs := r) hd
      refine ⟨x, hx, h1, fun h d hd' => ?_⟩
      rcases List.mem_cons.1 hd' with rfl | hd'
      · exact SB.known_den hd hk
      · exact h2 h d hd'
    · exact ⟨([], false), by simp, pcDen_nil ν, fun h => by cases h⟩
    · cases hq : c.den ν
      · exact ⟨([asm c false], false), by simp, pcDen_asm1 hq, fun h => by cases h⟩
      · obtain ⟨x, hx, h1, h2⟩ := need_den (cs := r) (pcDen_asm hq hd)
        refine ⟨(x.1 ++ [asm c true], x.2), List.mem_cons_of_mem _ (List.mem_map.2 ⟨x, hx, rfl⟩), pcDen_append h1 (pcDen_asm1 hq), fun h d hd' => ?_⟩
        rcases List.mem_cons.1 hd' with rfl | hd'
        · exact hq
        · exact h2 h d hd'

theorem ways_den {α : Type} {ν : Env G} {cs : List SB} {pc : PC} (v : α) (hd : pcDen ν pc) : ∃ x ∈ ways (need pc cs) v, pcDen ν x.1 ∧ ∀ u, x.2 = some u → u = v ∧ ∀ c ∈ cs, c.den ν = true := by
  obtain ⟨x, hx, h1, h2⟩ := need_den (cs := cs) hd
  refine ⟨(x.1, if x.2 then some v else none), List.mem_map.2 ⟨x, hx, rfl⟩, h1, fun u hu => ?_⟩
  cases hb : x.2 with
  | false => rw [hb] at hu; simp at hu
  | true => rw [hb] at hu; simp only [if_true, Option.some.injEq] at hu; exact ⟨hu.symm, h2 hb⟩
end

/-! ### values and operands -/
section
variable {G : Type} (ν : Env G) (ρ : Nat → Nat)
theorem ofV1_den : ∀ {v : Value} {s : SV}, ofV1 v = some s → s.den ν ρ = v := by
  intro v s h
  unfold ofV1 at h
  split at h <;> simp only [Option.some.injEq, reduceCtorEq] at h <;> subst h <;> simp [SV.den, SI.den, SB.den]
theorem ofVL_den : ∀ {l : List Value} {s : List SV}, ofVL l = some s → denL ν ρ s = l
  | [], s, h => by simp only [ofVL, Option.some.injEq] at h; subst h; rfl
  | v :: vs, s, h => by
    unfold ofVL at h
    split at h
    · rename_i x xs hx hxs
      simp only [Option.some.injEq] at h
      subst h
      simp [denL, ofV1_den ν ρ hx, ofVL_den hxs]
    · cases h
theorem ofV_den {v : Value} {s : SV} (h : ofV v = some s) : s.den ν ρ = v := by
  unfold ofV at h
  split at h
  · rename_i cs
    simp only [Option.map_eq_some_iff] at h
    obtain ⟨l, hl, rfl⟩ := h
    simp [SV.den, ofVL_den ν ρ hl]
  · exact ofV1_den ν ρ h

/-- The frame: of a dead slot nothing is said. -/
structure FR (fr : List SV) (a : Act) : Prop where
  size : a.tmps.size = fr.length
  tmps : ∀ (t : Nat) (v : SV), fr[t]? = some v → v.isDead = false → a.tmps[t]? = some (v.den ν ρ)
  defers : a.defers = []
variable {ν ρ}
theorem denL_get (l : List SV) (i : Nat) : (denL ν ρ l)[i]? = (l[i]?).map (·.den ν ρ) := by rw [denL_eq]; simp
theorem denL_length (l : List SV) : (denL ν ρ l).length = l.length := by rw [denL_eq]; simp
theorem denL_append (l m : List SV) : denL ν ρ (l ++ m) = denL ν ρ l ++ denL ν ρ m := by simp [denL_eq]
theorem denL_take (l : List SV) (n : Nat) : denL ν ρ (l.take n) = (denL ν ρ l).take n := by simp [denL_eq]
theorem denL_drop (l : List SV) (n : Nat) : denL ν ρ (l.drop n) = (denL ν ρ l).drop n := by simp [denL_eq]
theorem denL_set (l : List SV) (n : Nat) (v : SV) : denL ν ρ (l.set n v) = (denL ν ρ l).set n (v.den ν ρ) := by simp [denL_eq, List.map_set]
theorem undef_den : (SV.tup []).den ν ρ = undef := rfl
theorem FR.of_eq {fr : List SV} {a : Act} (h : a.tmps = (denL ν ρ fr).toArray) (hd : a.defers = []) : FR ν ρ fr a :=
  ⟨by rw [h]; simp [denL_length], fun t v ht _ => by rw [h, List.getElem?_toArray, denL_get, ht]; rfl, hd⟩
theorem avL_mem {lo hi : Nat} : ∀ {l : List SV}, avL lo hi l = true → ∀ v ∈ l, v.av lo hi = true
  | [], _, v, h => by cases h
  | x :: xs, hv, v, h => by
    simp only [avL, Bool.and_eq_true] at hv
    rcases List.mem_cons.1 h with rfl | h
    · exact hv.1
    · exact avL_mem hv.2 v h
theorem FR.agree {lo hi : Nat} {ν' : Env G} {ρ' : Nat → Nat} {fr : List SV} {a : Act} (hag : Agree lo hi ν ν' ρ ρ') (hv : avL lo hi fr = true) (h : FR ν ρ fr a) : FR ν' ρ' fr a :=
  ⟨h.size, fun t v ht hd => by rw [SV.den_agree hag v (avL_mem hv v (List.mem_of_getElem? ht))]; exact h.tmps t v ht hd, h.defers⟩
theorem FR.get {fr : List SV} {a : Act} (h : FR ν ρ fr a) {t : Nat} (hd : (fget fr t).isDead = false) : a.tmps.getD t undef = (fget fr t).den ν ρ := by
  unfold fget at *
  rw [Array.getD_eq_getD_getElem?]
  cases hq : fr[t]? with
  | none =>
    have h1 : fr.length ≤ t := List.getElem?_eq_none_iff.1 hq
    rw [Array.getElem?_eq_none (by rw [h.size]; exact h1)]
    simp [undef_den]
  | some v =>
    rw [hq] at hd
    rw [h.tmps t v hq hd]
    rfl
theorem FR.eval {fr : List SV} {a : Act} (h : FR ν ρ fr a) {x : Operand} {v : SV} (hx : evalO fr x = some v) : a.eval x = v.den ν ρ := by
  unfold evalO at hx
  split at hx
  · rename_i t
    split at hx
    · cases hx
    · rename_i hd
      cases hx
      exact h.get (by simpa using hd)
  · simp only [Act.eval]; rw [ofV_den ν ρ hx]
  · cases hx; simp [Act.eval, SV.den, denL]
  · cases hx
theorem FR.evalL {fr : List SV} {a : Act} (h : FR ν ρ fr a) : ∀ {xs : List Operand} {vs : List SV}, evalOL fr xs = some vs → xs.map a.eval = denL ν ρ vs
  | [], vs, hx => by simp only [evalOL, Option.some.injEq] at hx; subst hx; rfl
  | x :: xs, vs, hx => by
    unfold evalOL at hx
    split at hx
    · rename_i v w hv hw
      cases hx
      simp [denL, h.eval hv, h.evalL hw]
    · cases hx
theorem FR.put {fr : List SV} {a : Act} (h : FR ν ρ fr a) (d : Option Nat) (v : SV) : FR ν ρ (fput fr d v) (a.put d (v.den ν ρ)) := by
  cases d with
  | none => exact h
  | some d =>
    refine ⟨by simp [Act.put, fput, h.size], fun t u ht hd => ?_, h.defers⟩
    simp only [Act.put, fput] at *
    rw [List.getElem?_set] at ht
    rw [Array.getElem?_setIfInBounds]
    by_cases hdt : d = t
    · subst hdt
      simp only [if_true] at ht
      split at ht
      · rename_i hlt
        cases ht
        have : d < a.tmps.size := by rw [h.size]; exact hlt
        simp [this]
      · cases ht
    · rw [if_neg hdt] at ht
      rw [if_neg hdt]
      exact h.tmps t u ht hd
end

/-! ### the heap -/
structure HW {G : Type} (B : Base) (ν : Env G) (ρ : Nat → Nat) (hp : Heap) (w : World) : Prop where
  os : w.os = B.w0.os
  tape : w.tape = B.w0.tape
  output : w.output = B.w0.output
  size : B.w0.heap.size ≤ w.heap.size
  kept : ∀ k, ¬ B.own k → w.heap[k]? = B.w0.heap[k]?
  nd : (hp.map (·.1)).Nodup
  foot : ∃ F : Nat → Nat → Prop, (∀ n b, (n, b) ∈ hp → BlkDen B ν ρ w (F n) n b) ∧ (∀ n b k, (n, b) ∈ hp → F n k → B.own k) ∧ (∀ n b m c k, (n, b) ∈ hp → (m, c) ∈ hp → F n k → F m k → n = m)

theorem hget_mem {n : Nat} {b : SBk} : ∀ {hp : Heap}, hget n hp = some b → (n, b) ∈ hp
  | [], h => by simp [hget] at h
  | (m, c) :: r, h => by
    unfold hget at h
    split at h
    · rename_i hb
      rw [← Nat.eq_of_beq_eq_true hb]
      cases h
      simp
    · exact List.mem_cons_of_mem _ (hget_mem h)

theorem hset_fst (n : Nat) (b : SBk) : ∀ (hp : Heap), (hset n b hp).map (·.1) = hp.map (·.1)
  | [] => rfl
  | (m, c) :: r => by
    unfold hset
    split
    · rfl
    · simp [hset_fst n b r]

theorem mem_hset {n : Nat} {b : SBk} {m : Nat} {c : SBk} : ∀ {hp : Heap}, (hp.map (·.1)).Nodup → (m, c) ∈ hset n b hp → (m = n ∧ c = b) ∨ (m ≠ n ∧ (m, c) ∈ hp)
  | [], _, h => by simp [hset] at h
  | (k, d) :: r, hnd, h => by
    simp only [List.map_cons, List.nodup_cons] at hnd
    unfold hset at h
    split at h
    · rename_i hb
      have hk := Nat.eq_of_beq_eq_true hb
      subst hk
      rcases List.mem_cons.1 h with h1 | h1
      · cases h1; exact .inl ⟨rfl, rfl⟩
      · refine .inr ⟨fun e => ?_, by simp [h1]⟩
        subst e
        exact hnd.1 (List.mem_map.2 ⟨(m, c), h1, rfl⟩)
    · rename_i hb
      rcases List.mem_cons.1 h with h | h
      · cases h
        refine .inr ⟨?_, by simp⟩
        rintro rfl
        exact hb (Nat.beq_refl _)
      · rcases mem_hset hnd.2 h with h | h
        · exact .inl h
        · exact .inr ⟨h.1, by simp [h.2]⟩

theorem mem_hadd {n : Nat} {b : SBk} {x : Nat × SBk} : ∀ {hp : Heap}, x ∈ hadd n b hp ↔ x = (n, b) ∨ x ∈ hp
  | [] => by simp [hadd]
  | (m, c) :: r => by
    unfold hadd
    split
    · simp
    · simp only [List.mem_cons, mem_hadd (hp := r)]
      constructor
      · rintro (h | h | h)
        · exact .inr (.inl h)
        · exact .inl h
        · exact .inr (.inr h)
      · rintro (h | h | h)
        · exact .inr (.inl h)
        · exact .inl h
        · exact .inr (.inr h)

theorem hadd_nd {n : Nat} {b : SBk} : ∀ {hp : Heap}, (hp.map (·.1)).Nodup → n ∉ hp.map (·.1) → ((hadd n b hp).map (·.1)).Nodup
  | [], _, _ => by simp [hadd]
  | (m, c) :: r, hnd, hn => by
    unfold hadd
    split
    · simp only [List.map_cons, List.nodup_cons] at *
      exact ⟨hn, hnd⟩
    · simp only [List.map_cons, List.nodup_cons, List.mem_cons, not_or] at *
      refine ⟨?_, hadd_nd hnd.2 hn.2⟩
      intro hm
      obtain ⟨x, hx, he⟩ := List.mem_map.1 hm
      rcases mem_hadd.1 hx with h | h
      · subst h; exact hn.1 he
      · exact hnd.1 (List.mem_map.2 ⟨x, h, he⟩)

theorem hav_mem {lo hi : Nat} : ∀ {hp : Heap}, hav lo hi hp = true → ∀ n b, (n, b) ∈ hp → out lo hi n = true ∧ b.av lo hi = true
  | [], _, n, b, h => by cases h
  | (m, c) :: r, hv, n, b, h => by
    simp only [hav, Bool.and_eq_true] at hv
    rcases List.mem_cons.1 h with h | h
    · cases h; exact ⟨hv.1.1, hv.1.2⟩
    · exact hav_mem hv.2 n b h

theorem out_self (n : Nat) : out n (n + 1) n = false := by
  unfold out
  simp only [Bool.or_eq_false_iff]
  constructor
  · cases h : Nat.ble (n + 1) n
    · rfl
    · have := Nat.le_of_ble_eq_true h; omega
  · cases h : Nat.ble (n + 1) n
    · rfl
    · have := Nat.le_of_ble_eq_true h; omega

theorem hget_unique {n : Nat} {b c : SBk} {hp : Heap} (hnd : (hp.map (·.1)).Nodup) (hb : (n, b) ∈ hp) (hc : (n, c) ∈ hp) : b = c := by
  induction hp with
  | nil => cases hb
  | cons x r ih =>
    obtain ⟨m, d⟩ := x
    simp only [List.map_cons, List.nodup_cons] at hnd
    rcases List.mem_cons.1 hb with h1 | h1 <;> rcases List.mem_cons.1 hc with h2 | h2
    · cases h1; cases h2; rfl
    · cases h1; exact absurd (List.mem_map.2 ⟨(n, c), h2, rfl⟩) hnd.1
    · cases h2; exact absurd (List.mem_map.2 ⟨(n, b), h1, rfl⟩) hnd.1
    · exact ih hnd.2 h1 h2

section
variable {G : Type} {B : Base} {ν : Env G} {ρ : Nat → Nat} {hp : Heap} {w : World}

theorem BlkDen.lt {F : Nat → Prop} {n : Nat} {b : SBk} (h : BlkDen B ν ρ w F n b) {k : Nat} (hk : F k) : k < w.heap.size := by
  cases b with
  | cells cs ty ex =>
    cases ex <;> simp only [BlkDen] at h
    · obtain ⟨⟨r, hr⟩, hF⟩ := h; rw [(hF k).1 hk]; exact (Array.getElem?_eq_some_iff.1 hr).1
    · rw [(h.2 k).1 hk]; exact (Array.getElem?_eq_some_iff.1 h.1).1
  | row k' l c ty =>
    simp only [BlkDen] at h
    obtain ⟨⟨r, hr, _⟩, hF⟩ := h; rw [(hF k).1 hk]; exact (Array.getElem?_eq_some_iff.1 hr).1
  | res g => exact ν.I.lt h k hk
  | view k' o l => exact absurd hk (h.1 k)
  | tab f g ks o l => exact absurd hk (h.1 k)

theorem BlkDen.world {F : Nat → Prop} {w w' : World} {n : Nat} {b : SBk} (h : ∀ k, F k → w'.heap[k]? = w.heap[k]?) (hd : BlkDen B ν ρ w F n b) : BlkDen B ν ρ w' F n b := by
  cases b with
  | cells cs ty ex =>
    cases ex <;> simp only [BlkDen] at *
    · obtain ⟨hr, hF⟩ := hd; rw [h _ ((hF _).2 rfl)]; exact ⟨hr, hF⟩
    · obtain ⟨hr, hF⟩ := hd; rw [h _ ((hF _).2 rfl)]; exact ⟨hr, hF⟩
  | row k l c ty => simp only [BlkDen] at *; obtain ⟨hr, hF⟩ := hd; rw [h _ ((hF _).2 rfl)]; exact ⟨hr, hF⟩
  | res g => exact ν.I.frame hd h
  | view k' o l => exact hd
  | tab f g ks o l => exact hd

theorem HW.drew (h : HW B ν ρ hp w) : HW B ν ρ hp w.drew :=
  ⟨h.os, h.tape, h.output, h.size, h.kept, h.nd, by
    obtain ⟨F, h1, h2, h3⟩ := h.foot
    exact ⟨F, fun n b hm => BlkDen.world (w := w) (w' := w.drew) (fun _ _ => rfl) (h1 n b hm), h2, h3⟩⟩

theorem HW.sub (h : HW B ν ρ hp w) {p : Nat × SBk → Bool} : HW B ν ρ (hp.filter p) w :=
  ⟨h.os, h.tape, h.output, h.size, h.kept, (List.Sublist.map _ List.filter_sublist).nodup h.nd, by
    obtain ⟨F, h1, h2, h3⟩ := h.foot
    exact ⟨F, fun n b hm => h1 n b (List.mem_filter.1 hm).1, fun n b k hm => h2 n b k (List.mem_filter.1 hm).1, fun n b m c k hm hm' => h3 n b m c k (List.mem_filter.1 hm).1 (List.mem_filter.1 hm').1⟩⟩

/-- the reading with one block more. -/
def upd (ρ : Nat → Nat) (n k : Nat) : Nat → Nat := fun m => if m = n then k else ρ m
theorem agree_upd (n k : Nat) : Agree n (n + 1) ν ν ρ (upd ρ n k) :=
  ⟨rfl, fun _ _ => rfl, fun _ _ => rfl, fun _ _ => rfl, fun _ _ => rfl, fun _ _ => rfl, fun _ _ => rfl, fun m hm => by
    unfold upd
    split
    · rename_i h; subst h; rw [out_self] at hm; cases hm
    · rfl⟩

/-- An environment with one number more. -/
def Env.updI (ν : Env G) (n : Nat) (x : Int) : Env G := { ν with i := fun m => if m = n then x else ν.i m }
theorem agree_updI (n k : Nat) (x : Int) : Agree n (n + 1) ν (ν.updI n x) ρ (upd ρ n k) :=
  ⟨rfl, fun _ _ => rfl, fun m hm => by
    simp only [Env.updI]
    split
    · rename_i h; subst h; rw [out_self] at hm; cases hm
    · rfl, fun _ _ => rfl, fun _ _ => rfl, fun _ _ => rfl, fun _ _ => rfl, fun m hm => by
    unfold upd
    split
    · rename_i h; subst h; rw [out_self] at hm; cases hm
    · rfl⟩

theorem hav_ne {n : Nat} (hv : hav n (n + 1) hp = true) : ∀ m c, (m, c) ∈ hp → m ≠ n := fun m c hm e => by
  have := (hav_mem hv m c hm).1
  rw [e, out_self] at this
  cases this

/-- A block more, at a block number that is nobody's. -/
theorem HW.put {ν' : Env G} {w' : World} (h : HW B ν ρ hp w) {n k : Nat} {b : SBk} (hag : Agree n (n + 1) ν ν' ρ (upd ρ n k)) (hv : hav n (n + 1) hp = true)
    (ho : w'.os = w.os) (ht : w'.tape = w.tape) (hu : w'.output = w.output) (hs : w.heap.size ≤ w'.heap.size)
    (hk : B.own k)
    (hnob : ∃ F : Nat → Nat → Prop, (∀ n b, (n, b) ∈ hp → BlkDen B ν ρ w (F n) n b) ∧ (∀ n b k, (n, b) ∈ hp → F n k → B.own k) ∧ (∀ n b m c k, (n, b) ∈ hp → (m, c) ∈ hp → F n k → F m k → n = m) ∧ ∀ n b, (n, b) ∈ hp → ¬ F n k)
    (hoth : ∀ j, j ≠ k → j < w.heap.size → w'.heap[j]? = w.heap[j]?)
    (hb : BlkDen B ν' (upd ρ n k) w' (fun j => j = k) n b) (hkept : ∀ j, ¬ B.own j → w'.heap[j]? = w.heap[j]?) : HW B ν' (upd ρ n k) (hadd n b hp) w' := by
  have hne := hav_ne hv
  refine ⟨ho.trans h.os, ht.trans h.tape, hu.trans h.output, Nat.le_trans h.size hs, fun j hj => (hkept j hj).trans (h.kept j hj), hadd_nd h.nd ?_, ?_⟩
  · intro hm
    obtain ⟨x, hx, he⟩ := List.mem_map.1 hm
    exact hne x.1 x.2 hx he
  · obtain ⟨F, h1, h2, h3, h4⟩ := hnob
    refine ⟨fun m => if m = n then fun j => j = k else F m, fun m c hm => ?_, fun m c j hm hj => ?_, fun m c m' c' j hm hm' hj hj' => ?_⟩
    · rcases mem_hadd.1 hm with e | hm
      · cases e; simpa using hb
      · have hx := hav_mem hv m c hm
        simp only [hne m c hm, if_false]
        refine BlkDen.agree hag hx.2 hx.1 (BlkDen.world (fun j hj => ?_) (h1 m c hm))
        exact hoth j (fun e => h4 m c hm (e ▸ hj)) (BlkDen.lt (h1 m c hm) hj)
    · rcases mem_hadd.1 hm with e | hm
      · cases e; simp only [if_true] at hj; rw [hj]; exact hk
      · simp only [hne m c hm, if_false] at hj; exact h2 m c j hm hj
    · rcases mem_hadd.1 hm with e | hm <;> rcases mem_hadd.1 hm' with e' | hm'
      · cases e; cases e'; rfl
      · cases e
        simp only [if_true] at hj
        simp only [hne m' c' hm', if_false] at hj'
        rw [hj] at hj'
        exact (h4 m' c' hm' hj').elim
      · cases e'
        simp only [if_true] at hj'
        simp only [hne m c hm, if_false] at hj
        rw [hj'] at hj
        exact (h4 m c hm hj).elim
      · simp only [hne m c hm, hne m' c' hm', if_false] at hj hj'
        exact h3 m c m' c' j hm hm' hj hj'

/-- A new block. -/
theorem HW.new {ν' : Env G} (h : HW B ν ρ hp w) {n : Nat} {b : SBk} {o : Obj} (hag : Agree n (n + 1) ν ν' ρ (upd ρ n w.heap.size)) (hv : hav n (n + 1) hp = true)
    (hb : BlkDen B ν' (upd ρ n w.heap.size) (w.alloc o) (fun j => j = w.heap.size) n b) : HW B ν' (upd ρ n w.heap.size) (hadd n b hp) (w.alloc o) := by
  refine h.put hag hv rfl rfl rfl (by simp) (.inl h.size) ?_ (fun j hj hlt => ?_) hb (fun j hj => ?_)
  · obtain ⟨F, h1, h2, h3⟩ := h.foot
    exact ⟨F, h1, h2, h3, fun m c hm hF => by have := BlkDen.lt (h1 m c hm) hF; omega⟩
  · simp only [World.alloc, Array.getElem?_push]
    rw [if_neg hj]
  · have hj' : j ≠ w.heap.size := fun e => hj (.inl (by rw [e]; exact h.size))
    simp only [World.alloc, Array.getElem?_push]
    rw [if_neg hj']

def NoRes : SBk → Prop
  | .res _ | .view _ _ _ | .tab _ _ _ _ _ => False
  | _ => True

theorem BlkDen.single {F : Nat → Prop} {n : Nat} {b : SBk} (hc : NoRes b) (h : BlkDen B ν ρ w F n b) : ∀ k, F k ↔ k = ρ n := by
  cases b with
  | cells cs ty ex => cases ex <;> simp only [BlkDen] at h <;> exact h.2
  | row k l c ty => simp only [BlkDen] at h; exact h.2
  | res g => exact hc.elim
  | view k' o l => exact hc.elim
  | tab f g ks o l => exact hc.elim

/-- One block turned: no ghost's. -/
theorem HW.turn (h : HW B ν ρ hp w) {n : Nat} {b b' : SBk} (hc : NoRes b) (hn : (n, b) ∈ hp) {w' : World} (ho : w'.os = w.os) (ht : w'.tape = w.tape) (hu : w'.output = w.output) (hs : w'.heap.size = w.heap.size)
    (hk : ∀ k, k ≠ ρ n → w'.heap[k]? = w.heap[k]?) (hb : BlkDen B ν ρ w' (fun j => j = ρ n) n b') : HW B ν ρ (hset n b' hp) w' := by
  obtain ⟨F, h1, h2, h3⟩ := h.foot
  have hF := BlkDen.single hc (h1 n b hn)
  refine ⟨ho.trans h.os, ht.trans h.tape, hu.trans h.output, by rw [hs]; exact h.size, fun k hk' => ?_, by rw [hset_fst]; exact h.nd, ?_⟩
  · rw [hk k (fun e => hk' (e ▸ h2 n b _ hn ((hF _).2 rfl)))]; exact h.kept k hk'
  · have key : ∀ m c, (m, c) ∈ hset n b' hp → ∃ d, (m, d) ∈ hp := fun m c hm => by
      rcases mem_hset h.nd hm with ⟨rfl, rfl⟩ | ⟨hne, hm⟩
      · exact ⟨b, hn⟩
      · exact ⟨c, hm⟩
    refine ⟨F, fun m c hm => ?_, fun m c k hm hFk => ?_, fun m c m' c' k hm hm' hk1 hk2 => ?_⟩
    · rcases mem_hset h.nd hm with ⟨rfl, rfl⟩ | ⟨hne, hm⟩
      · have : F m = fun j => j = ρ m := by funext j; exact propext (hF j)
        rw [this]; exact hb
      · exact BlkDen.world (fun k hFk => hk _ (fun e => hne (h3 m c n b k hm hn hFk ((hF k).2 e)))) (h1 m c hm)
    · obtain ⟨d, hd⟩ := key m c hm
      exact h2 m d k hd hFk
    · obtain ⟨d, hd⟩ := key m c hm
      obtain ⟨d', hd'⟩ := key m' c' hm'
      exact h3 m d m' d' k hd hd' hk1 hk2

/-- what a block that is no ghost's says. -/
theorem HW.at {n : Nat} {b : SBk} (h : HW B ν ρ hp w) (hn : (n, b) ∈ hp) : ∃ F, BlkDen B ν ρ w F n b := by
  obtain ⟨F, h1, _, _⟩ := h.foot
  exact ⟨F n, h1 n b hn⟩
end
end Go.Sy
