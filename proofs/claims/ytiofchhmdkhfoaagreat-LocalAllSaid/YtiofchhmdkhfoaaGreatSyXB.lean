/- Texts of one library, in one file. -/
import Derived.Test.YtiofchhmdkhfoaaGreatSyXA
import Derived.Laws.StructEq
set_option linter.unusedVariables false
set_option linter.unusedSimpArgs false

section
namespace Go.Sy
open Go

/-! ### the smart constructors -/
section
variable {G : Type} (ν : Env G)
theorem SI.mkAdd_den (a b : SI) : (SI.mkAdd a b).den ν = a.den ν + b.den ν := by unfold SI.mkAdd; split <;> simp [SI.den]
theorem SI.mkSub_den (a b : SI) : (SI.mkSub a b).den ν = a.den ν - b.den ν := by unfold SI.mkSub; split <;> simp [SI.den]
theorem SI.mkMul_den (a b : SI) : (SI.mkMul a b).den ν = a.den ν * b.den ν := by unfold SI.mkMul; split <;> simp [SI.den]
theorem SI.mkTdiv_den (a b : SI) : (SI.mkTdiv a b).den ν = (a.den ν).tdiv (b.den ν) := by unfold SI.mkTdiv; split <;> simp [SI.den]
theorem SI.mkTmod_den (a b : SI) : (SI.mkTmod a b).den ν = (a.den ν).tmod (b.den ν) := by unfold SI.mkTmod; split <;> simp [SI.den]
theorem SI.mkFdiv_den (a b : SI) : (SI.mkFdiv a b).den ν = (a.den ν).fdiv (b.den ν) := by unfold SI.mkFdiv; split <;> simp [SI.den]
theorem SI.mkWrap_den (k : IntKind) (a : SI) : (SI.mkWrap k a).den ν = k.wrap (a.den ν) := by unfold SI.mkWrap; split <;> simp [SI.den]
theorem SI.mkNat_den (a : SI) : (SI.mkNat a).den ν = ((a.den ν).toNat : Int) := by unfold SI.mkNat; split <;> simp [SI.den]
theorem SI.mkBits_den (o : Nat) (k : IntKind) (a b : SI) : (SI.mkBits o k a b).den ν = bitsDen o k (a.den ν) (b.den ν) := by unfold SI.mkBits; split <;> simp [SI.den]
theorem SI.mkLen_den : ∀ (l : SL), (SI.mkLen l).den ν = ((l.den ν).length : Int)
  | .nil => by simp [SI.mkLen, SI.den, SL.den]
  | .cons x l => by
    have ih := SI.mkLen_den l
    unfold SI.mkLen
    simp only [SL.den, List.length_cons]
    split
    · rename_i n hn; rw [hn] at ih; simp only [SI.den] at ih ⊢; omega
    · simp only [SI.den, ih]; omega
  | .app a b => by simp [SI.mkLen, SI.mkAdd_den, SI.mkLen_den a, SI.mkLen_den b, SL.den]
  | .set l _ _ => by simp [SI.mkLen, SI.mkLen_den l, SL.den]
  | .rep n _ => by simp [SI.mkLen, SI.mkNat_den, SL.den]
  | .var i => by simp [SI.mkLen, SI.den]
  | .take l n => by simp [SI.mkLen, SI.den]
  | .drop l n => by simp [SI.mkLen, SI.den]
  | .gl f g a b => by simp [SI.mkLen, SI.den]
theorem SI.mkNth_den (l : SL) (i : SI) : (SI.mkNth l i).den ν = (l.den ν).getD (i.den ν).toNat 0 := by
  unfold SI.mkNth
  split
  · simp [SL.den, SI.den]
  · rename_i x l n
    split
    · rename_i y z
      split
      · rename_i hn
        have := Nat.eq_of_beq_eq_true hn
        subst this
        simp [SL.den, SI.den]
      · simp [SI.den]
    · simp [SI.den]
  · simp only [SL.den, SI.den, List.getD_eq_getElem?_getD, List.getElem?_replicate]
    split <;> rfl
  · simp [SI.den]
theorem SL.mkApp_den : ∀ (a b : SL), (SL.mkApp a b).den ν = a.den ν ++ b.den ν := by
  intro a
  induction a using SL.rec (motive_1 := fun _ => True) (motive_3 := fun _ => True) <;> try trivial
  all_goals (intro b; unfold SL.mkApp; try (split <;> simp [SL.den]))
  all_goals (simp_all [SL.den])
theorem getD_set_same (l : List Int) (n : Nat) : l.set n (l.getD n 0) = l := by
  refine List.ext_getElem (by simp) fun j h1 h2 => ?_
  rw [List.getElem_set]
  split
  · rename_i h; subst h; simp [List.getD_eq_getElem?_getD, h2]
  · rfl
theorem SL.mkSet_den (l : SL) (i x : SI) : (SL.mkSet l i x).den ν = (l.den ν).set (i.den ν).toNat (x.den ν) := by
  unfold SL.mkSet
  split
  · split
    · rename_i h
      simp only [Bool.and_eq_true] at h
      rw [SL.beq_eq h.1, SI.beq_eq h.2]
      simp only [SI.den]
      exact (getD_set_same _ _).symm
    · rfl
  · rfl
theorem SL.takeN_den : ∀ {l : SL} {n : Nat} {t : SL}, SL.takeN l n = some t → t.den ν = (l.den ν).take n
  | l, 0, t, h => by cases l <;> (simp only [SL.takeN, Option.some.injEq] at h; subst h; simp [SL.den])
  | .nil, n + 1, t, h => by simp only [SL.takeN, Option.some.injEq] at h; subst h; simp [SL.den]
  | .cons x l, n + 1, t, h => by
    simp only [SL.takeN] at h
    split at h
    · rename_i u hu; cases h; simp only [SL.den, List.take_succ_cons, SL.takeN_den hu]
    · cases h
  | .var _, n + 1, t, h => by simp [SL.takeN] at h
  | .app _ _, n + 1, t, h => by simp [SL.takeN] at h
  | .set _ _ _, n + 1, t, h => by simp [SL.takeN] at h
  | .take _ _, n + 1, t, h => by simp [SL.takeN] at h
  | .drop _ _, n + 1, t, h => by simp [SL.takeN] at h
  | .rep _ _, n + 1, t, h => by simp [SL.takeN] at h
  | .gl _ _ _ _, n + 1, t, h => by simp [SL.takeN] at h
theorem SL.mkTake_den (l : SL) (n : SI) : (SL.mkTake l n).den ν = (l.den ν).take (n.den ν).toNat := by
  unfold SL.mkTake
  split
  · rename_i h
    rw [← SI.beq_eq h, SI.mkLen_den]
    simp
  · split
    · split
      · rename_i h
        rw [SL.takeN_den _ h]; simp [SI.den]
      · simp [SL.den]
    · simp [SL.den]
theorem SL.dropN_den : ∀ (l : SL) (n : Nat), (SL.dropN l n).den ν = (l.den ν).drop n
  | l, 0 => by cases l <;> simp [SL.dropN]
  | .nil, n + 1 => by simp [SL.dropN, SL.den]
  | .cons x l, n + 1 => by simp only [SL.dropN, SL.den, List.drop_succ_cons]; exact SL.dropN_den l n
  | .var _, n + 1 => by simp [SL.dropN, SL.den, SI.den]
  | .app _ _, n + 1 => by simp [SL.dropN, SL.den, SI.den]
  | .set _ _ _, n + 1 => by simp [SL.dropN, SL.den, SI.den]
  | .take _ _, n + 1 => by simp [SL.dropN, SL.den, SI.den]
  | .drop _ _, n + 1 => by simp [SL.dropN, SL.den, SI.den]
  | .rep _ _, n + 1 => by simp [SL.dropN, SL.den, SI.den]
  | .gl _ _ _ _, n + 1 => by simp [SL.dropN, SL.den, SI.den]
theorem SL.mkDrop_den (l : SL) (n : SI) : (SL.mkDrop l n).den ν = (l.den ν).drop (n.den ν).toNat := by
  unfold SL.mkDrop
  split
  · rw [SL.dropN_den]; simp [SI.den]
  · simp [SL.den]
theorem SB.mkAnd_den (a b : SB) : (SB.mkAnd a b).den ν = (a.den ν && b.den ν) := by
  unfold SB.mkAnd
  split <;> simp [SB.den]
theorem SB.mkNot_den (a : SB) : (SB.mkNot a).den ν = !(a.den ν) := by unfold SB.mkNot; split <;> simp [SB.den]
theorem intBeq_iff (a b : Int) : intBeq a b = (a == b) := by
  cases h : intBeq a b
  · symm
    rw [beq_eq_false_iff_ne]
    rintro rfl
    cases a <;> simp [intBeq] at h
  · rw [intBeq_eq h]; simp
theorem SB.mkEq_den (a b : SI) : (SB.mkEq a b).den ν = (a.den ν == b.den ν) := by
  unfold SB.mkEq
  split
  · simp [SB.den, SI.den, intBeq_iff]
  · split
    · rename_i h; rw [SI.beq_eq h]; simp [SB.den]
    · simp [SB.den]
theorem SB.mkLt_den (a b : SI) : (SB.mkLt a b).den ν = decide (a.den ν < b.den ν) := by
  unfold SB.mkLt
  split
  · rfl
  · split
    · rename_i h; rw [SI.beq_eq h]; simp [SB.den]
    · rfl
theorem SB.mkSame_den (a b : SB) : (SB.mkSame a b).den ν = (a.den ν == b.den ν) := by
  unfold SB.mkSame
  split
  · rename_i h; rw [SB.beq_eq h]; simp [SB.den]
  · rfl
theorem SB.mkLe_den (a b : SI) : (SB.mkLe a b).den ν = decide (a.den ν ≤ b.den ν) := by
  unfold SB.mkLe
  split
  · rfl
  split
  · rename_i h; rw [SI.beq_eq h]; simp [SB.den]
  · simp only [SB.den]
    by_cases h : b.den ν < a.den ν
    · have h2 : ¬ a.den ν ≤ b.den ν := by omega
      simp [h, h2]
    · have h2 : a.den ν ≤ b.den ν := by omega
      simp [h2]
end

section
variable {G : Type}
def pcDen (ν : Env G) (pc : PC) : Prop := ∀ c b, (c, b) ∈ pc → c.den ν = b

theorem pcDen_nil (ν : Env G) : pcDen ν [] := fun _ _ h => by cases h
theorem pcDen_append {ν : Env G} {p q : PC} (h : pcDen ν p) (g : pcDen ν q) : pcDen ν (p ++ q) := fun c b hm => by
  rcases List.mem_append.1 hm with hm | hm
  · exact h c b hm
  · exact g c b hm
theorem pcDen_cons {ν : Env G} {c : SB} {b : Bool} {q : PC} (h : c.den ν = b) (g : pcDen ν q) : pcDen ν ((c, b) :: q) := fun d x hm => by
  rcases List.mem_cons.1 hm with hm | hm
  · cases hm; exact h
  · exact g d x hm
theorem pcDen_one {ν : Env G} {c : SB} {b : Bool} (h : c.den ν = b) : pcDen ν [(c, b)] := pcDen_cons h (pcDen_nil ν)

theorem asm_den {ν : Env G} : ∀ {c : SB} {b : Bool}, c.den ν = b → (asm c b).1.den ν = (asm c b).2 := by
  intro c
  induction c with
  | not a ih =>
    intro b h
    simp only [asm]
    refine ih ?_
    simp only [SB.den] at h
    rw [← h, Bool.not_not]
  | _ => intro b h; exact h
theorem pcDen_asm {ν : Env G} {c : SB} {b : Bool} {q : PC} (h : c.den ν = b) (g : pcDen ν q) : pcDen ν (asm c b :: q) := pcDen_cons (asm_den h) g
theorem pcDen_asm1 {ν : Env G} {c : SB} {b : Bool} (h : c.den ν = b) : pcDen ν [asm c b] := pcDen_asm h (pcDen_nil ν)

theorem pcDen_agree {lo hi : Nat} {ν ν' : Env G} {ρ ρ' : Nat → Nat} (h : Agree lo hi ν ν' ρ ρ') : ∀ {pc : PC}, pav lo hi pc = true → pcDen ν pc → pcDen ν' pc
  | [], _, _ => pcDen_nil ν'
  | (c, b) :: r, hv, hd => by
    simp only [pav, Bool.and_eq_true] at hv
    exact pcDen_cons (by rw [SB.den_agree h c hv.1]; exact hd c b (by simp)) (pcDen_agree h hv.2 fun d x hm => hd d x (by simp [hm]))

theorem pcFind_den {ν : Env G} {c : SB} {x : Bool} : ∀ {pc : PC}, pcDen ν pc → pcFind c pc = some x → c.den ν = x
  | [], _, h => by simp [pcFind] at h
  | (d, b) :: r, hd, h => by
    unfold pcFind at h
    split at h
    · rename_i hb
      rw [← SB.beq_eq hb]
      simp only [Option.some.injEq] at h
      rw [← h]
      exact hd d b (by simp)
    · exact pcFind_den (fun e y hm => hd e y (by simp [hm])) h

theorem SB.known_den {ν : Env G} {pc : PC} (hd : pcDen ν pc) : ∀ {c : SB} {x : Bool}, c.known pc = some x → c.den ν = x := by
  intro c
  induction c with
  | lit b => intro x h; simp only [SB.known, Option.some.injEq] at h; simp [SB.den, h]
  | not a ih =>
    intro x h
    simp only [SB.known, Option.map_eq_some_iff] at h
    obtain ⟨y, hy, rfl⟩ := h
    simp [SB.den, ih hy]
  | and a b iha ihb =>
    intro x h
    simp only [SB.known] at h
    split at h
    · rename_i ha; cases h; simp [SB.den, iha ha]
    · rename_i hb _; cases h; simp [SB.den, ihb hb]
    · rename_i ha hb; cases h; simp [SB.den, iha ha, ihb hb]
    · exact pcFind_den hd h
  | or a b iha ihb =>
    intro x h
    simp only [SB.known] at h
    split at h
    · rename_i ha; cases h; simp [SB.den, iha ha]
    · rename_i hb _; cases h; simp [SB.den, ihb hb]
    · rename_i ha hb; cases h; simp [SB.den, iha ha, ihb hb]
    · exact pcFind_den hd h
  | var i => intro x h; exact pcFind_den hd (by simpa [SB.known] using h)
  | eq a b => intro x h; exact pcFind_den hd (by simpa [SB.known] using h)
  | lt a b => intro x h; exact pcFind_den hd (by simpa [SB.known] using h)
  | le a b => intro x h; exact pcFind_den hd (by simpa [SB.known] using h)
  | same a b => intro x h; exact pcFind_den hd (by simpa [SB.known] using h)
  | gb f g a b => intro x h; exact pcFind_den hd (by simpa [SB.known] using h)

/-- Of what must hold, one way holds. -/
theorem need_den {ν : Env G} : ∀ {cs : List SB} {pc : PC}, pcDen ν pc → ∃ x ∈ need pc cs, pcDen ν x.1 ∧ (x.2 = true → ∀ c ∈ cs, c.den ν = true)
  | [], pc, _ => ⟨([], true), by simp [need], pcDen_nil ν, fun _ c hc => by cases hc⟩
  | c :: r, pc, hd => by
    unfold need
    split
    · rename_i hk
      obtain ⟨x, hx, h1, h2⟩ := need_den (cs := r) hd
      refine ⟨x, hx, h1, fun h d hd' => ?_⟩
      rcases List.mem_cons.1 hd' with rfl | hd'
      · exact SB.known_den hd hk
      · exact h2 h d hd'
    · exact ⟨([], false), by simp, pcDen_nil ν, fun h => by cases h⟩
    · cases hq : c.den ν
      · exact ⟨([asm c false], false), by simp, pcDen_asm1 hq, fun h => by cases h⟩
      · obtain ⟨x, hx, h1, h2⟩ := need_den (cs := r) (pcDen_asm hq hd)
        refine ⟨(x.1 ++ [asm c true], x.2), List.mem_cons_of_mem _ (List.mem_map.2 ⟨x, hx, rfl⟩), pcDen_append h1 (pcDen_asm1 hq), fun h d hd' => ?_⟩
        rcases List.mem_cons.1 hd' with rfl | hd'
        · exact hq
        · exact h2 h d hd'

theorem ways_den {α : Type} {ν : Env G} {cs : List SB} {pc : PC} (v : α) (hd : pcDen ν pc) : ∃ x ∈ ways (need pc cs) v, pcDen ν x.1 ∧ ∀ u, x.2 = some u → u = v ∧ ∀ c ∈ cs, c.den ν = true := by
  obtain ⟨x, hx, h1, h2⟩ := need_den (cs := cs) hd
  refine ⟨(x.1, if x.2 then some v else none), List.mem_map.2 ⟨x, hx, rfl⟩, h1, fun u hu => ?_⟩
  cases hb : x.2 with
  | false => rw [hb] at hu; simp at hu
  | true => rw [hb] at hu; simp only [if_true, Option.some.injEq] at hu; exact ⟨hu.symm, h2 hb⟩
end

/-! ### values and operands -/
section
variable {G : Type} (ν : Env G) (ρ : Nat → Nat)
theorem ofV1_den : ∀ {v : Value} {s : SV}, ofV1 v = some s → s.den ν ρ = v := by
  intro v s h
  unfold ofV1 at h
  split at h <;> simp only [Option.some.injEq, reduceCtorEq] at h <;> subst h <;> simp [SV.den, SI.den, SB.den]
theorem ofVL_den : ∀ {l : List Value} {s : List SV}, ofVL l = some s → denL ν ρ s = l
  | [], s, h => by simp only [ofVL, Option.some.injEq] at h; subst h; rfl
  | v :: vs, s, h => by
    unfold ofVL at h
    split at h
    · rename_i x xs hx hxs
      simp only [Option.some.injEq] at h
      subst h
      simp [denL, ofV1_den ν ρ hx, ofVL_den hxs]
    · cases h
theorem ofV_den {v : Value} {s : SV} (h : ofV v = some s) : s.den ν ρ = v := by
  unfold ofV at h
  split at h
  · rename_i cs
    simp only [Option.map_eq_some_iff] at h
    obtain ⟨l, hl, rfl⟩ := h
    simp [SV.den, ofVL_den ν ρ hl]
  · exact ofV1_den ν ρ h

/-- The frame: of a dead slot nothing is said. -/
structure FR (fr : List SV) (a : Act) : Prop where
  size : a.tmps.size = fr.length
  tmps : ∀ (t : Nat) (v : SV), fr[t]? = some v → v.isDead = false → a.tmps[t]? = some (v.den ν ρ)
  defers : a.defers = []
variable {ν ρ}
theorem denL_get (l : List SV) (i : Nat) : (denL ν ρ l)[i]? = (l[i]?).map (·.den ν ρ) := by rw [denL_eq]; simp
theorem denL_length (l : List SV) : (denL ν ρ l).length = l.length := by rw [denL_eq]; simp
theorem denL_append (l m : List SV) : denL ν ρ (l ++ m) = denL ν ρ l ++ denL ν ρ m := by simp [denL_eq]
theorem denL_take (l : List SV) (n : Nat) : denL ν ρ (l.take n) = (denL ν ρ l).take n := by simp [denL_eq]
theorem denL_drop (l : List SV) (n : Nat) : denL ν ρ (l.drop n) = (denL ν ρ l).drop n := by simp [denL_eq]
theorem denL_set (l : List SV) (n : Nat) (v : SV) : denL ν ρ (l.set n v) = (denL ν ρ l).set n (v.den ν ρ) := by simp [denL_eq, List.map_set]
theorem undef_den : (SV.tup []).den ν ρ = undef := rfl
theorem FR.of_eq {fr : List SV} {a : Act} (h : a.tmps = (denL ν ρ fr).toArray) (hd : a.defers = []) : FR ν ρ fr a :=
  ⟨by rw [h]; simp [denL_length], fun t v ht _ => by rw [h, List.getElem?_toArray, denL_get, ht]; rfl, hd⟩
theorem avL_mem {lo hi : Nat} : ∀ {l : List SV}, avL lo hi l = true → ∀ v ∈ l, v.av lo hi = true
  | [], _, v, h => by cases h
  | x :: xs, hv, v, h => by
    simp only [avL, Bool.and_eq_true] at hv
    rcases List.mem_cons.1 h with rfl | h
    · exact hv.1
    · exact avL_mem hv.2 v h
theorem FR.agree {lo hi : Nat} {ν' : Env G} {ρ' : Nat → Nat} {fr : List SV} {a : Act} (hag : Agree lo hi ν ν' ρ ρ') (hv : avL lo hi fr = true) (h : FR ν ρ fr a) : FR ν' ρ' fr a :=
  ⟨h.size, fun t v ht hd => by rw [SV.den_agree hag v (avL_mem hv v (List.mem_of_getElem? ht))]; exact h.tmps t v ht hd, h.defers⟩
theorem FR.get {fr : List SV} {a : Act} (h : FR ν ρ fr a) {t : Nat} (hd : (fget fr t).isDead = false) : a.tmps.getD t undef = (fget fr t).den ν ρ := by
  unfold fget at *
  rw [Array.getD_eq_getD_getElem?]
  cases hq : fr[t]? with
  | none =>
    have h1 : fr.length ≤ t := List.getElem?_eq_none_iff.1 hq
    rw [Array.getElem?_eq_none (by rw [h.size]; exact h1)]
    simp [undef_den]
  | some v =>
    rw [hq] at hd
    rw [h.tmps t v hq hd]
    rfl
theorem FR.eval {fr : List SV} {a : Act} (h : FR ν ρ fr a) {x : Operand} {v : SV} (hx : evalO fr x = some v) : a.eval x = v.den ν ρ := by
  unfold evalO at hx
  split at hx
  · rename_i t
    split at hx
    · cases hx
    · rename_i hd
      cases hx
      exact h.get (by simpa using hd)
  · simp only [Act.eval]; rw [ofV_den ν ρ hx]
  · cases hx; simp [Act.eval, SV.den, denL]
  · cases hx
theorem FR.evalL {fr : List SV} {a : Act} (h : FR ν ρ fr a) : ∀ {xs : List Operand} {vs : List SV}, evalOL fr xs = some vs → xs.map a.eval = denL ν ρ vs
  | [], vs, hx => by simp only [evalOL, Option.some.injEq] at hx; subst hx; rfl
  | x :: xs, vs, hx => by
    unfold evalOL at hx
    split at hx
    · rename_i v w hv hw
      cases hx
      simp [denL, h.eval hv, h.evalL hw]
    · cases hx
theorem FR.put {fr : List SV} {a : Act} (h : FR ν ρ fr a) (d : Option Nat) (v : SV) : FR ν ρ (fput fr d v) (a.put d (v.den ν ρ)) := by
  cases d with
  | none => exact h
  | some d =>
    refine ⟨by simp [Act.put, fput, h.size], fun t u ht hd => ?_, h.defers⟩
    simp only [Act.put, fput] at *
    rw [List.getElem?_set] at ht
    rw [Array.getElem?_setIfInBounds]
    by_cases hdt : d = t
    · subst hdt
      simp only [if_true] at ht
      split at ht
      · rename_i hlt
        cases ht
        have : d < a.tmps.size := by rw [h.size]; exact hlt
        simp [this]
      · cases ht
    · rw [if_neg hdt] at ht
      rw [if_neg hdt]
      exact h.tmps t u ht hd
end

/-! ### the heap -/
structure HW {G : Type} (B : Base) (ν : Env G) (ρ : Nat → Nat) (hp : Heap) (w : World) : Prop where
  os : w.os = B.w0.os
  tape : w.tape = B.w0.tape
  output : w.output = B.w0.output
  size : B.w0.heap.size ≤ w.heap.size
  kept : ∀ k, ¬ B.own k → w.heap[k]? = B.w0.heap[k]?
  nd : (hp.map (·.1)).Nodup
  foot : ∃ F : Nat → Nat → Prop, (∀ n b, (n, b) ∈ hp → BlkDen B ν ρ w (F n) n b) ∧ (∀ n b k, (n, b) ∈ hp → F n k → B.own k) ∧ (∀ n b m c k, (n, b) ∈ hp → (m, c) ∈ hp → F n k → F m k → n = m)

theorem hget_mem {n : Nat} {b : SBk} : ∀ {hp : Heap}, hget n hp = some b → (n, b) ∈ hp
  | [], h => by simp [hget] at h
  | (m, c) :: r, h => by
    unfold hget at h
    split at h
    · rename_i hb
      rw [← Nat.eq_of_beq_eq_true hb]
      cases h
      simp
    · exact List.mem_cons_of_mem _ (hget_mem h)

theorem hset_fst (n : Nat) (b : SBk) : ∀ (hp : Heap), (hset n b hp).map (·.1) = hp.map (·.1)
  | [] => rfl
  | (m, c) :: r => by
    unfold hset
    split
    · rfl
    · simp [hset_fst n b r]

theorem mem_hset {n : Nat} {b : SBk} {m : Nat} {c : SBk} : ∀ {hp : Heap}, (hp.map (·.1)).Nodup → (m, c) ∈ hset n b hp → (m = n ∧ c = b) ∨ (m ≠ n ∧ (m, c) ∈ hp)
  | [], _, h => by simp [hset] at h
  | (k, d) :: r, hnd, h => by
    simp only [List.map_cons, List.nodup_cons] at hnd
    unfold hset at h
    split at h
    · rename_i hb
      have hk := Nat.eq_of_beq_eq_true hb
      subst hk
      rcases List.mem_cons.1 h with h1 | h1
      · cases h1; exact .inl ⟨rfl, rfl⟩
      · refine .inr ⟨fun e => ?_, by simp [h1]⟩
        subst e
        exact hnd.1 (List.mem_map.2 ⟨(m, c), h1, rfl⟩)
    · rename_i hb
      rcases List.mem_cons.1 h with h | h
      · cases h
        refine .inr ⟨?_, by simp⟩
        rintro rfl
        exact hb (Nat.beq_refl _)
      · rcases mem_hset hnd.2 h with h | h
        · exact .inl h
        · exact .inr ⟨h.1, by simp [h.2]⟩

theorem mem_hadd {n : Nat} {b : SBk} {x : Nat × SBk} : ∀ {hp : Heap}, x ∈ hadd n b hp ↔ x = (n, b) ∨ x ∈ hp
  | [] => by simp [hadd]
  | (m, c) :: r => by
    unfold hadd
    split
    · simp
    · simp only [List.mem_cons, mem_hadd (hp := r)]
      constructor
      · rintro (h | h | h)
        · exact .inr (.inl h)
        · exact .inl h
        · exact .inr (.inr h)
      · rintro (h | h | h)
        · exact .inr (.inl h)
        · exact .inl h
        · exact .inr (.inr h)

theorem hadd_nd {n : Nat} {b : SBk} : ∀ {hp : Heap}, (hp.map (·.1)).Nodup → n ∉ hp.map (·.1) → ((hadd n b hp).map (·.1)).Nodup
  | [], _, _ => by simp [hadd]
  | (m, c) :: r, hnd, hn => by
    unfold hadd
    split
    · simp only [List.map_cons, List.nodup_cons] at *
      exact ⟨hn, hnd⟩
    · simp only [List.map_cons, List.nodup_cons, List.mem_cons, not_or] at *
      refine ⟨?_, hadd_nd hnd.2 hn.2⟩
      intro hm
      obtain ⟨x, hx, he⟩ := List.mem_map.1 hm
      rcases mem_hadd.1 hx with h | h
      · subst h; exact hn.1 he
      · exact hnd.1 (List.mem_map.2 ⟨x, h, he⟩)

theorem hav_mem {lo hi : Nat} : ∀ {hp : Heap}, hav lo hi hp = true → ∀ n b, (n, b) ∈ hp → out lo hi n = true ∧ b.av lo hi = true
  | [], _, n, b, h => by cases h
  | (m, c) :: r, hv, n, b, h => by
    simp only [hav, Bool.and_eq_true] at hv
    rcases List.mem_cons.1 h with h | h
    · cases h; exact ⟨hv.1.1, hv.1.2⟩
    · exact hav_mem hv.2 n b h

theorem out_self (n : Nat) : out n (n + 1) n = false := by
  unfold out
  simp only [Bool.or_eq_false_iff]
  constructor
  · cases h : Nat.ble (n + 1) n
    · rfl
    · have := Nat.le_of_ble_eq_true h; omega
  · cases h : Nat.ble (n + 1) n
    · rfl
    · have := Nat.le_of_ble_eq_true h; omega

theorem hget_unique {n : Nat} {b c : SBk} {hp : Heap} (hnd : (hp.map (·.1)).Nodup) (hb : (n, b) ∈ hp) (hc : (n, c) ∈ hp) : b = c := by
  induction hp with
  | nil => cases hb
  | cons x r ih =>
    obtain ⟨m, d⟩ := x
    simp only [List.map_cons, List.nodup_cons] at hnd
    rcases List.mem_cons.1 hb with h1 | h1 <;> rcases List.mem_cons.1 hc with h2 | h2
    · cases h1; cases h2; rfl
    · cases h1; exact absurd (List.mem_map.2 ⟨(n, c), h2, rfl⟩) hnd.1
    · cases h2; exact absurd (List.mem_map.2 ⟨(n, b), h1, rfl⟩) hnd.1
    · exact ih hnd.2 h1 h2

section
variable {G : Type} {B : Base} {ν : Env G} {ρ : Nat → Nat} {hp : Heap} {w : World}

theorem BlkDen.lt {F : Nat → Prop} {n : Nat} {b : SBk} (h : BlkDen B ν ρ w F n b) {k : Nat} (hk : F k) : k < w.heap.size := by
  cases b with
  | cells cs ty ex =>
    cases ex <;> simp only [BlkDen] at h
    · obtain ⟨⟨r, hr⟩, hF⟩ := h; rw [(hF k).1 hk]; exact (Array.getElem?_eq_some_iff.1 hr).1
    · rw [(h.2 k).1 hk]; exact (Array.getElem?_eq_some_iff.1 h.1).1
  | row k' l c ty =>
    simp only [BlkDen] at h
    obtain ⟨⟨r, hr, _⟩, hF⟩ := h; rw [(hF k).1 hk]; exact (Array.getElem?_eq_some_iff.1 hr).1
  | res g => exact ν.I.lt h k hk
  | view k' o l => exact absurd hk (h.1 k)
  | tab f g ks o l => exact absurd hk (h.1 k)

theorem BlkDen.world {F : Nat → Prop} {w w' : World} {n : Nat} {b : SBk} (h : ∀ k, F k → w'.heap[k]? = w.heap[k]?) (hd : BlkDen B ν ρ w F n b) : BlkDen B ν ρ w' F n b := by
  cases b with
  | cells cs ty ex =>
    cases ex <;> simp only [BlkDen] at *
    · obtain ⟨hr, hF⟩ := hd; rw [h _ ((hF _).2 rfl)]; exact ⟨hr, hF⟩
    · obtain ⟨hr, hF⟩ := hd; rw [h _ ((hF _).2 rfl)]; exact ⟨hr, hF⟩
  | row k l c ty => simp only [BlkDen] at *; obtain ⟨hr, hF⟩ := hd; rw [h _ ((hF _).2 rfl)]; exact ⟨hr, hF⟩
  | res g => exact ν.I.frame hd h
  | view k' o l => exact hd
  | tab f g ks o l => exact hd

theorem HW.drew (h : HW B ν ρ hp w) : HW B ν ρ hp w.drew :=
  ⟨h.os, h.tape, h.output, h.size, h.kept, h.nd, by
    obtain ⟨F, h1, h2, h3⟩ := h.foot
    exact ⟨F, fun n b hm => BlkDen.world (w := w) (w' := w.drew) (fun _ _ => rfl) (h1 n b hm), h2, h3⟩⟩

theorem HW.sub (h : HW B ν ρ hp w) {p : Nat × SBk → Bool} : HW B ν ρ (hp.filter p) w :=
  ⟨h.os, h.tape, h.output, h.size, h.kept, (List.Sublist.map _ List.filter_sublist).nodup h.nd, by
    obtain ⟨F, h1, h2, h3⟩ := h.foot
    exact ⟨F, fun n b hm => h1 n b (List.mem_filter.1 hm).1, fun n b k hm => h2 n b k (List.mem_filter.1 hm).1, fun n b m c k hm hm' => h3 n b m c k (List.mem_filter.1 hm).1 (List.mem_filter.1 hm').1⟩⟩

/-- the reading with one block more. -/
def upd (ρ : Nat → Nat) (n k : Nat) : Nat → Nat := fun m => if m = n then k else ρ m
theorem agree_upd (n k : Nat) : Agree n (n + 1) ν ν ρ (upd ρ n k) :=
  ⟨rfl, fun _ _ => rfl, fun _ _ => rfl, fun _ _ => rfl, fun _ _ => rfl, fun _ _ => rfl, fun _ _ => rfl, fun m hm => by
    unfold upd
    split
    · rename_i h; subst h; rw [out_self] at hm; cases hm
    · rfl⟩

/-- An environment with one number more. -/
def Env.updI (ν : Env G) (n : Nat) (x : Int) : Env G := { ν with i := fun m => if m = n then x else ν.i m }
theorem agree_updI (n k : Nat) (x : Int) : Agree n (n + 1) ν (ν.updI n x) ρ (upd ρ n k) :=
  ⟨rfl, fun _ _ => rfl, fun m hm => by
    simp only [Env.updI]
    split
    · rename_i h; subst h; rw [out_self] at hm; cases hm
    · rfl, fun _ _ => rfl, fun _ _ => rfl, fun _ _ => rfl, fun _ _ => rfl, fun m hm => by
    unfold upd
    split
    · rename_i h; subst h; rw [out_self] at hm; cases hm
    · rfl⟩

theorem hav_ne {n : Nat} (hv : hav n (n + 1) hp = true) : ∀ m c, (m, c) ∈ hp → m ≠ n := fun m c hm e => by
  have := (hav_mem hv m c hm).1
  rw [e, out_self] at this
  cases this

/-- A block more, at a block number that is nobody's. -/
theorem HW.put {ν' : Env G} {w' : World} (h : HW B ν ρ hp w) {n k : Nat} {b : SBk} (hag : Agree n (n + 1) ν ν' ρ (upd ρ n k)) (hv : hav n (n + 1) hp = true)
    (ho : w'.os = w.os) (ht : w'.tape = w.tape) (hu : w'.output = w.output) (hs : w.heap.size ≤ w'.heap.size)
    (hk : B.own k)
    (hnob : ∃ F : Nat → Nat → Prop, (∀ n b, (n, b) ∈ hp → BlkDen B ν ρ w (F n) n b) ∧ (∀ n b k, (n, b) ∈ hp → F n k → B.own k) ∧ (∀ n b m c k, (n, b) ∈ hp → (m, c) ∈ hp → F n k → F m k → n = m) ∧ ∀ n b, (n, b) ∈ hp → ¬ F n k)
    (hoth : ∀ j, j ≠ k → j < w.heap.size → w'.heap[j]? = w.heap[j]?)
    (hb : BlkDen B ν' (upd ρ n k) w' (fun j => j = k) n b) (hkept : ∀ j, ¬ B.own j → w'.heap[j]? = w.heap[j]?) : HW B ν' (upd ρ n k) (hadd n b hp) w' := by
  have hne := hav_ne hv
  refine ⟨ho.trans h.os, ht.trans h.tape, hu.trans h.output, Nat.le_trans h.size hs, fun j hj => (hkept j hj).trans (h.kept j hj), hadd_nd h.nd ?_, ?_⟩
  · intro hm
    obtain ⟨x, hx, he⟩ := List.mem_map.1 hm
    exact hne x.1 x.2 hx he
  · obtain ⟨F, h1, h2, h3, h4⟩ := hnob
    refine ⟨fun m => if m = n then fun j => j = k else F m, fun m c hm => ?_, fun m c j hm hj => ?_, fun m c m' c' j hm hm' hj hj' => ?_⟩
    · rcases mem_hadd.1 hm with e | hm
      · cases e; simpa using hb
      · have hx := hav_mem hv m c hm
        simp only [hne m c hm, if_false]
        refine BlkDen.agree hag hx.2 hx.1 (BlkDen.world (fun j hj => ?_) (h1 m c hm))
        exact hoth j (fun e => h4 m c hm (e ▸ hj)) (BlkDen.lt (h1 m c hm) hj)
    · rcases mem_hadd.1 hm with e | hm
      · cases e; simp only [if_true] at hj; rw [hj]; exact hk
      · simp only [hne m c hm, if_false] at hj; exact h2 m c j hm hj
    · rcases mem_hadd.1 hm with e | hm <;> rcases mem_hadd.1 hm' with e' | hm'
      · cases e; cases e'; rfl
      · cases e
        simp only [if_true] at hj
        simp only [hne m' c' hm', if_false] at hj'
        rw [hj] at hj'
        exact (h4 m' c' hm' hj').elim
      · cases e'
        simp only [if_true] at hj'
        simp only [hne m c hm, if_false] at hj
        rw [hj'] at hj
        exact (h4 m c hm hj).elim
      · simp only [hne m c hm, hne m' c' hm', if_false] at hj hj'
        exact h3 m c m' c' j hm hm' hj hj'

/-- A new block. -/
theorem HW.new {ν' : Env G} (h : HW B ν ρ hp w) {n : Nat} {b : SBk} {o : Obj} (hag : Agree n (n + 1) ν ν' ρ (upd ρ n w.heap.size)) (hv : hav n (n + 1) hp = true)
    (hb : BlkDen B ν' (upd ρ n w.heap.size) (w.alloc o) (fun j => j = w.heap.size) n b) : HW B ν' (upd ρ n w.heap.size) (hadd n b hp) (w.alloc o) := by
  refine h.put hag hv rfl rfl rfl (by simp) (.inl h.size) ?_ (fun j hj hlt => ?_) hb (fun j hj => ?_)
  · obtain ⟨F, h1, h2, h3⟩ := h.foot
    exact ⟨F, h1, h2, h3, fun m c hm hF => by have := BlkDen.lt (h1 m c hm) hF; omega⟩
  · simp only [World.alloc, Array.getElem?_push]
    rw [if_neg hj]
  · have hj' : j ≠ w.heap.size := fun e => hj (.inl (by rw [e]; exact h.size))
    simp only [World.alloc, Array.getElem?_push]
    rw [if_neg hj']

def NoRes : SBk → Prop
  | .res _ | .view _ _ _ | .tab _ _ _ _ _ => False
  | _ => True

theorem BlkDen.single {F : Nat → Prop} {n : Nat} {b : SBk} (hc : NoRes b) (h : BlkDen B ν ρ w F n b) : ∀ k, F k ↔ k = ρ n := by
  cases b with
  | cells cs ty ex => cases ex <;> simp only [BlkDen] at h <;> exact h.2
  | row k l c ty => simp only [BlkDen] at h; exact h.2
  | res g => exact hc.elim
  | view k' o l => exact hc.elim
  | tab f g ks o l => exact hc.elim

/-- One block turned: no ghost's. -/
theorem HW.turn (h : HW B ν ρ hp w) {n : Nat} {b b' : SBk} (hc : NoRes b) (hn : (n, b) ∈ hp) {w' : World} (ho : w'.os = w.os) (ht : w'.tape = w.tape) (hu : w'.output = w.output) (hs : w'.heap.size = w.heap.size)
    (hk : ∀ k, k ≠ ρ n → w'.heap[k]? = w.heap[k]?) (hb : BlkDen B ν ρ w' (fun j => j = ρ n) n b') : HW B ν ρ (hset n b' hp) w' := by
  obtain ⟨F, h1, h2, h3⟩ := h.foot
  have hF := BlkDen.single hc (h1 n b hn)
  refine ⟨ho.trans h.os, ht.trans h.tape, hu.trans h.output, by rw [hs]; exact h.size, fun k hk' => ?_, by rw [hset_fst]; exact h.nd, ?_⟩
  · rw [hk k (fun e => hk' (e ▸ h2 n b _ hn ((hF _).2 rfl)))]; exact h.kept k hk'
  · have key : ∀ m c, (m, c) ∈ hset n b' hp → ∃ d, (m, d) ∈ hp := fun m c hm => by
      rcases mem_hset h.nd hm with ⟨rfl, rfl⟩ | ⟨hne, hm⟩
      · exact ⟨b, hn⟩
      · exact ⟨c, hm⟩
    refine ⟨F, fun m c hm => ?_, fun m c k hm hFk => ?_, fun m c m' c' k hm hm' hk1 hk2 => ?_⟩
    · rcases mem_hset h.nd hm with ⟨rfl, rfl⟩ | ⟨hne, hm⟩
      · have : F m = fun j => j = ρ m := by funext j; exact propext (hF j)
        rw [this]; exact hb
      · exact BlkDen.world (fun k hFk => hk _ (fun e => hne (h3 m c n b k hm hn hFk ((hF k).2 e)))) (h1 m c hm)
    · obtain ⟨d, hd⟩ := key m c hm
      exact h2 m d k hd hFk
    · obtain ⟨d, hd⟩ := key m c hm
      obtain ⟨d', hd'⟩ := key m' c' hm'
      exact h3 m d m' d' k hd hd' hk1 hk2

/-- what a block that is no ghost's says. -/
theorem HW.at {n : Nat} {b : SBk} (h : HW B ν ρ hp w) (hn : (n, b) ∈ hp) : ∃ F, BlkDen B ν ρ w F n b := by
  obtain ⟨F, h1, _, _⟩ := h.foot
  exact ⟨F n, h1 n b hn⟩
end
end Go.Sy
end

section
namespace Go.Sy
open Go

section
variable {P : Program} {G : Type}

theorem aggT_run {t : Nat} {b : Bool} (h : aggT P t = some b) (w : World) : (isAgg t).run P w = .ok b w := by
  unfold aggT at h
  unfold isAgg
  split at h
  · rename_i fs hu; cases h; simp [run_underlying hu]
  · rename_i n e hu; cases h; simp [run_underlying hu]
  · rename_i d h1 h2 hu
    cases h
    rw [Sem.run_bind, run_underlying hu]
    cases d <;> simp_all
  · cases h
theorem sizeT_run {t n : Nat} (h : sizeT P t = some n) (w : World) : (sizeOf t).run P w = .ok n w := by
  unfold sizeT at h
  cases hq : P.info? t with
  | none => simp [hq] at h
  | some i => simp [hq] at h; simp [sizeOf, typeInfo, hq, h]
theorem zeroT_run {t : Nat} {z : SV} (h : zeroT P t = some z) (ν : Env G) (ρ : Nat → Nat) (w : World) : (zeroValue t).run P w = .ok (z.den ν ρ) w := by
  unfold zeroT at h
  cases hq : P.info? t with
  | none => simp [hq] at h
  | some i =>
    simp only [hq, Option.bind_eq_some_iff] at h
    obtain ⟨v, hv, hz⟩ := h
    simp [zeroValue, typeInfo, hq, hv, ofV_den ν ρ hz]

variable {B : Base} {ν : Env G} {ρ : Nat → Nat} {hp : Heap} {w : World}

theorem BlkDen.row {F : Nat → Prop} {n : Nat} {cs : List SV} {ty : Nat} {ex : Bool} (h : BlkDen B ν ρ w F n (.cells cs ty ex)) :
    ∃ rest : List Value, w.heap[ρ n]? = some (.cells (denL ν ρ cs ++ rest).toArray ty (0, 0)) ∧ (ex = true → rest = []) := by
  cases ex <;> simp only [BlkDen] at h
  · obtain ⟨⟨r, hr⟩, _⟩ := h; exact ⟨r, hr, by simp⟩
  · exact ⟨[], by simpa using h.1, by simp⟩

theorem add_none (b off j : Nat) : (⟨b, off, none⟩ : Addr).add j = ⟨b, off + j, none⟩ := by
  unfold Addr.add
  split <;> simp_all

theorem cell_at {g : Nat} {l : List Value} {ty : Nat} {fz : Nat × Nat} (h : w.heap[g]? = some (.cells l.toArray ty fz)) (j : Nat) : w.cell? ⟨g, j, none⟩ = l[j]? := by
  rw [cell_of_row w g j _ ty fz h]; simp

theorem HW.row (h : HW B ν ρ hp w) {n : Nat} {cs : List SV} {ty : Nat} {ex : Bool} (hm : (n, SBk.cells cs ty ex) ∈ hp) :
    ∃ rest : List Value, w.heap[ρ n]? = some (.cells (denL ν ρ cs ++ rest).toArray ty (0, 0)) ∧ (ex = true → rest = []) := by
  obtain ⟨F, hF⟩ := h.at hm
  exact hF.row

theorem HW.ints (h : HW B ν ρ hp w) {n : Nat} {k : IntKind} {l : SL} {c : SI} {ty : Nat} (hm : (n, SBk.row k l c ty) ∈ hp) :
    ∃ rest : List Value, w.heap[ρ n]? = some (.cells ((l.den ν).map (Value.int k) ++ rest).toArray ty (0, 0)) ∧ c.den ν = ((l.den ν).length + rest.length : Nat) ∧ c.den ν ≤ 9223372036854775807 := by
  obtain ⟨F, hF⟩ := h.at hm
  simp only [BlkDen] at hF
  exact hF.1

theorem getD_some {l : List Int} {n : Nat} (h : n < l.length) : l[n]? = some (l.getD n 0) := by
  rw [List.getD_eq_getElem?_getD, List.getElem?_eq_getElem h]; rfl

theorem subOff0_den {o off i : SI} (h : subOff0 o off = some i) : off.den ν = o.den ν + i.den ν := by
  unfold subOff0 at h
  split at h
  · cases h; simp [SI.den]
  · cases h
theorem subOff_den {o off i : SI} (h : subOff o off = some i) : off.den ν = o.den ν + i.den ν := by
  unfold subOff at h
  split at h
  · rename_i hb; cases h; rw [SI.beq_eq hb]; simp [SI.den]
  · split at h
    · split at h
      · rename_i hb; cases h; simp only [SI.den]; rw [SI.beq_eq hb]
      · exact subOff0_den h
    · exact subOff0_den h

theorem rowOff_den {n : Nat} {o x i : SI} (h : rowOff n o x = some i) : x.den ν = o.den ν + i.den ν * n := by
  unfold rowOff at h
  split at h
  · split at h
    · rename_i hb
      simp only [Bool.and_eq_true] at hb
      cases h
      have := Nat.eq_of_beq_eq_true hb.2
      subst this
      simp only [SI.den]
      rw [SI.beq_eq hb.1]
      rfl
    · cases h
  · cases h
theorem tabOff_den {n : Nat} {o off i : SI} {j : Nat} (h : tabOff n o off = some (i, j)) : off.den ν = o.den ν + i.den ν * n + j := by
  unfold tabOff at h
  split at h
  · rename_i hb; cases h; rw [SI.beq_eq hb]; simp [SI.den]
  · split at h
    · rename_i x m _
      split at h
      · rename_i hb
        cases h
        simp only [SI.den]
        rw [SI.beq_eq hb]
        have h1 : ((m / n * n + m % n : Nat) : Int) = m := by rw [Nat.div_add_mod']
        have h2 : Int.ofNat (m / n) = ((m / n : Nat) : Int) := rfl
        have h3 : Int.ofNat m = (m : Int) := rfl
        rw [h2, h3]
        rw [Int.natCast_add, Int.natCast_mul] at h1
        omega
      · split at h
        · rename_i i' hr
          cases h
          have := rowOff_den (ν := ν) hr
          simp only [SI.den]
          rw [this]
          rfl
        · cases h
    · simp only [Option.map_eq_some_iff, Prod.mk.injEq] at h
      obtain ⟨i', hr, rfl, rfl⟩ := h
      rw [rowOff_den hr]
      simp

theorem tabX_den (g : SG) (f : Nat) (i : SI) (k : Option IntKind) : (tabX g f i k).den ν ρ = tabV ν.I (g.den ν) f (i.den ν) k := by
  cases k <;> simp [tabX, tabV, SV.den, SI.den, SB.den]
theorem tabL_get (g : SG) (i : SI) : ∀ (ks : List (Option IntKind)) (f j : Nat), (denL ν ρ (tabL g i f ks))[j]? = (ks[j]?).map (tabV ν.I (g.den ν) (f + j) (i.den ν))
  | [], f, j => by simp [tabL, denL]
  | k :: r, f, 0 => by simp [tabL, denL, tabX_den]
  | k :: r, f, j + 1 => by
    simp only [tabL, denL, List.getElem?_cons_succ]
    rw [tabL_get g i r (f + 1) j, show f + 1 + j = f + (j + 1) by omega]
theorem tabL_length (g : SG) (i : SI) : ∀ (ks : List (Option IntKind)) (f : Nat), (tabL g i f ks).length = ks.length
  | [], f => rfl
  | k :: r, f => by simp [tabL, tabL_length g i r (f + 1)]

theorem HW.kept_cell (h : HW B ν ρ hp w) {k : Nat} (hk : ¬ B.own k) (j : Nat) : w.cell? ⟨k, j, none⟩ = B.w0.cell? ⟨k, j, none⟩ := by
  have := h.kept k hk
  simp [World.cell?, this]

theorem HW.view (h : HW B ν ρ hp w) {n : Nat} {k : IntKind} {o : SI} {l : SL} (hm : (n, SBk.view k o l) ∈ hp) :
    0 ≤ o.den ν ∧ ∀ j x, (l.den ν)[j]? = some x → w.cell? ⟨ρ n, (o.den ν).toNat + j, none⟩ = some (.int k x) := by
  obtain ⟨F, hF⟩ := h.at hm
  simp only [BlkDen] at hF
  exact ⟨hF.2.2.1, fun j x hx => by rw [h.kept_cell hF.2.1]; exact hF.2.2.2 j x hx⟩
theorem HW.tab (h : HW B ν ρ hp w) {n f : Nat} {g : SG} {ks : List (Option IntKind)} {o len : SI} (hm : (n, SBk.tab f g ks o len) ∈ hp) :
    0 ≤ o.den ν ∧ ∀ (i j : Nat) k, i < (len.den ν).toNat → ks[j]? = some k → w.cell? ⟨ρ n, (o.den ν).toNat + (i * ks.length + j), none⟩ = some (tabV ν.I (g.den ν) (f + j) i k) := by
  obtain ⟨F, hF⟩ := h.at hm
  simp only [BlkDen] at hF
  exact ⟨hF.2.2.1, fun i j k hi hk => by rw [h.kept_cell hF.2.1]; exact hF.2.2.2 i j k hi hk⟩

theorem nn_find {pc : PC} (hd : pcDen ν pc) {e : SI} (h : (pcFind (.lt e (.lit 0)) pc == some false) = true) : 0 ≤ e.den ν := by
  have h2 : pcFind (.lt e (.lit 0)) pc = some false := by simpa using h
  have := pcFind_den hd h2
  have h3 := of_decide_eq_false this
  simp only [SI.den] at h3
  omega
theorem SI.nn_den {pc : PC} (hd : pcDen ν pc) : ∀ (e : SI), e.nn pc = true → 0 ≤ e.den ν
  | .lit (.ofNat n), _ => Int.natCast_nonneg n
  | .lit (.negSucc n), h => by simp [SI.nn] at h
  | .len l, _ => Int.natCast_nonneg _
  | .nat a, _ => Int.natCast_nonneg _
  | .add a b, h => by
    simp only [SI.nn, Bool.or_eq_true, Bool.and_eq_true] at h
    rcases h with ⟨h1, h2⟩ | h
    · exact Int.add_nonneg (SI.nn_den hd a h1) (SI.nn_den hd b h2)
    · exact nn_find hd h
  | .mul a b, h => by
    simp only [SI.nn, Bool.or_eq_true, Bool.and_eq_true] at h
    rcases h with ⟨h1, h2⟩ | h
    · exact Int.mul_nonneg (SI.nn_den hd a h1) (SI.nn_den hd b h2)
    · exact nn_find hd h
  | .var _, h | .sub _ _, h | .tdiv _ _, h | .tmod _ _, h | .fdiv _ _, h | .wrap _ _, h | .bits _ _ _ _, h | .nth _ _, h | .gi _ _ _ _, h => nn_find hd h

theorem loadX_run (h : HW B ν ρ hp w) {pc : PC} (hd : pcDen ν pc) {t : Nat} {p : SV} {l : List (PC × Option SV)} (hl : loadX P pc hp t p = some l) :
    ∃ x ∈ l, pcDen ν x.1 ∧ ∀ v, x.2 = some v → (Instr.loadAt t (p.den ν ρ)).run P w = .ok (v.den ν ρ) w := by
  unfold loadX at hl
  split at hl
  · rename_i b off
    split at hl
    · rename_i cs ty ex hg
      split at hl
      · rename_i off
        obtain ⟨rest, hr, _⟩ := h.row (hget_mem hg)
        split at hl
        · rename_i n ha hs
          split at hl
          · rename_i hle
            have hle' := Nat.le_of_ble_eq_true hle
            cases hl
            refine ⟨_, by simp; rfl, pcDen_nil ν, fun v hv => ?_⟩
            cases hv
            have hlen : (denL ν ρ ((cs.drop off).take n)).length = n := by rw [denL_length]; simp; omega
            have hc := run_loadCells_list (P := P) w ⟨ρ b, off, none⟩ (denL ν ρ ((cs.drop off).take n)) (fun j x hj => by
              rw [add_none, cell_at hr]
              rw [denL_take, denL_drop, List.getElem?_take] at hj
              split at hj
              · rw [List.getElem?_drop] at hj
                rw [List.getElem?_append_left]
                · exact hj
                · exact (List.getElem?_eq_some_iff.1 hj).1
              · cases hj)
            rw [hlen] at hc
            simp [SV.den, SI.den, Instr.loadAt, Instr.sureAddr, loadVar, aggT_run ha, sizeT_run hs, hc]
          · cases hl
        · rename_i ha hs
          simp only [Option.map_eq_some_iff] at hl
          obtain ⟨v, hv, rfl⟩ := hl
          refine ⟨_, by simp; rfl, pcDen_nil ν, fun u hu => ?_⟩
          cases hu
          have hc : w.cell? ⟨ρ b, off, none⟩ = some (v.den ν ρ) := by
            rw [cell_at hr, List.getElem?_append_left (by rw [denL_length]; exact (List.getElem?_eq_some_iff.1 hv).1), denL_get, hv]
            rfl
          simp [SV.den, SI.den, Instr.loadAt, Instr.sureAddr, loadVar, aggT_run ha, hc]
        · cases hl
      · cases hl
    · rename_i k l' c ty hg
      split at hl
      · rename_i kk hu
        cases hl
        obtain ⟨x, hx, h1, h2⟩ := ways_den (ν := ν) (cs := [SB.mkLe (.lit 0) off, SB.mkLt off (SI.mkLen l')]) (SV.int k (SI.mkNth l' off)) hd
        refine ⟨x, hx, h1, fun v hv => ?_⟩
        obtain ⟨rfl, hc⟩ := h2 v hv
        have c1 := hc (SB.mkLe (.lit 0) off) (by simp)
        have c2 := hc (SB.mkLt off (SI.mkLen l')) (by simp)
        rw [SB.mkLe_den] at c1
        rw [SB.mkLt_den, SI.mkLen_den] at c2
        replace c1 : (0 : Int) ≤ off.den ν := of_decide_eq_true c1
        replace c2 := of_decide_eq_true c2
        obtain ⟨rest, hr, _⟩ := h.ints (hget_mem hg)
        have hlt : (off.den ν).toNat < (l'.den ν).length := by omega
        have hcell : w.cell? ⟨ρ b, (off.den ν).toNat, none⟩ = some (.int k ((l'.den ν).getD (off.den ν).toNat 0)) := by
          rw [cell_at hr, List.getElem?_append_left (by simpa using hlt), List.getElem?_map, getD_some hlt]
          rfl
        have hagg : (isAgg t).run P w = .ok false w := by simp [isAgg, run_underlying hu]
        simp [SV.den, Instr.loadAt, Instr.sureAddr, loadVar, hagg, hcell, SI.mkNth_den]
      · cases hl
    · rename_i k o l' hg
      split at hl
      · rename_i kk i hu hsub
        cases hl
        obtain ⟨x, hx, h1, h2⟩ := ways_den (ν := ν) (cs := [SB.mkLe (.lit 0) i, SB.mkLt i (SI.mkLen l')]) (SV.int k (SI.mkNth l' i)) hd
        refine ⟨x, hx, h1, fun v hv => ?_⟩
        obtain ⟨rfl, hc⟩ := h2 v hv
        have c1 := hc (SB.mkLe (.lit 0) i) (by simp)
        have c2 := hc (SB.mkLt i (SI.mkLen l')) (by simp)
        rw [SB.mkLe_den] at c1
        rw [SB.mkLt_den, SI.mkLen_den] at c2
        replace c1 : (0 : Int) ≤ i.den ν := of_decide_eq_true c1
        replace c2 := of_decide_eq_true c2
        obtain ⟨h0, hcell⟩ := h.view (hget_mem hg)
        have hlt : (i.den ν).toNat < (l'.den ν).length := by omega
        have ho := subOff_den (ν := ν) hsub
        have ho2 : (off.den ν).toNat = (o.den ν).toNat + (i.den ν).toNat := by omega
        have hcell2 := hcell _ _ (getD_some hlt)
        have hagg : (isAgg t).run P w = .ok false w := by simp [isAgg, run_underlying hu]
        simp [SV.den, Instr.loadAt, Instr.sureAddr, loadVar, hagg, ho2, hcell2, SI.mkNth_den]
      · cases hl
    · rename_i f g ks o len hg
      split at hl
      · rename_i i j htab
        have ho := tabOff_den (ν := ν) htab
        obtain ⟨h0, hcell⟩ := h.tab (hget_mem hg)
        have hmul : ∀ (q : Nat), i.den ν = (q : Int) → i.den ν * (ks.length : Int) = ((q * ks.length : Nat) : Int) := fun q hq => by rw [hq, Int.natCast_mul]
        split at hl
        · rename_i n ha hs
          split at hl
          · rename_i hc
            simp only [Bool.and_eq_true] at hc
            have hj := Nat.eq_of_beq_eq_true hc.1
            have hn := Nat.eq_of_beq_eq_true hc.2
            subst hj hn
            cases hl
            obtain ⟨x, hx, h1, h2⟩ := ways_den (ν := ν) (cs := [SB.mkLe (.lit 0) i, SB.mkLt i len]) (SV.agg (tabL g i f ks)) hd
            refine ⟨x, hx, h1, fun v hv => ?_⟩
            obtain ⟨rfl, hc⟩ := h2 v hv
            have c1 := hc (SB.mkLe (.lit 0) i) (by simp)
            have c2 := hc (SB.mkLt i len) (by simp)
            rw [SB.mkLe_den] at c1
            rw [SB.mkLt_den] at c2
            replace c1 : (0 : Int) ≤ i.den ν := of_decide_eq_true c1
            replace c2 := of_decide_eq_true c2
            obtain ⟨q, hq⟩ : ∃ q : Nat, i.den ν = (q : Int) := ⟨(i.den ν).toNat, by omega⟩
            have ho2 : (off.den ν).toNat = (o.den ν).toNat + q * ks.length := by rw [hmul q hq] at ho; omega
            have hlc := run_loadCells_list (P := P) w ⟨ρ b, (off.den ν).toNat, none⟩ (denL ν ρ (tabL g i f ks)) (fun jj u hjj => by
              rw [tabL_get] at hjj
              cases hk : ks[jj]? with
              | none => rw [hk] at hjj; cases hjj
              | some kk =>
                rw [hk, hq] at hjj
                have := hcell q jj kk (by omega) hk
                rw [add_none, ho2, Nat.add_assoc, this]
                exact hjj)
            rw [denL_length, tabL_length] at hlc
            simp [SV.den, Instr.loadAt, Instr.sureAddr, loadVar, aggT_run ha, sizeT_run hs, hlc]
          · cases hl
        · rename_i n ha hs
          split at hl
          · rename_i k hk
            cases hl
            obtain ⟨x, hx, h1, h2⟩ := ways_den (ν := ν) (cs := [SB.mkLe (.lit 0) i, SB.mkLt i len]) (tabX g (f + j) i k) hd
            refine ⟨x, hx, h1, fun v hv => ?_⟩
            obtain ⟨rfl, hc⟩ := h2 v hv
            have c1 := hc (SB.mkLe (.lit 0) i) (by simp)
            have c2 := hc (SB.mkLt i len) (by simp)
            rw [SB.mkLe_den] at c1
            rw [SB.mkLt_den] at c2
            replace c1 : (0 : Int) ≤ i.den ν := of_decide_eq_true c1
            replace c2 := of_decide_eq_true c2
            obtain ⟨q, hq⟩ : ∃ q : Nat, i.den ν = (q : Int) := ⟨(i.den ν).toNat, by omega⟩
            have ho2 : (off.den ν).toNat = (o.den ν).toNat + (q * ks.length + j) := by rw [hmul q hq] at ho; omega
            have hcell2 := hcell q j k (by omega) hk
            simp only [SV.den, Instr.loadAt, Instr.sureAddr, loadVar, Sem.run_bind, Sem.run_pure, Result.andThen_ok, aggT_run ha]
            rw [ho2, tabX_den, hq]
            simp [hcell2]
          · cases hl
        · cases hl
      · cases hl
    · cases hl
  · cases hl

theorem cells_den (v : SV) : (v.den ν ρ).cells = (denL ν ρ v.cellsOf).toArray := by
  cases v with
  | opq i =>
    have := ν.vo i
    simp only [SV.den, SV.cellsOf, denL]
    cases hv : ν.v i <;> simp_all [Value.cells, Value.oneCell']
  | gv f g i =>
    have := ν.I.gvo f (g.den ν) (i.den ν)
    simp only [SV.den, SV.cellsOf, denL]
    cases hv : ν.I.gv f (g.den ν) (i.den ν) <;> simp_all [Value.cells, Value.oneCell']
  | osl b l c => simp only [SV.den, SV.cellsOf, denL]; split <;> simp [Value.cells]
  | _ => simp [SV.den, Value.cells, SV.cellsOf, denL]

theorem one_den {v : SV} (h : v.one = true) : (v.den ν ρ).oneCell' = true := by
  cases v with
  | opq i => exact ν.vo _
  | gv f g i => exact ν.I.gvo _ _ _
  | osl b l c => simp only [SV.den]; split <;> rfl
  | _ => simp_all [SV.one, SV.den, Value.oneCell']

theorem splice_den (cs : List SV) (off : Nat) (vs : List SV) : denL ν ρ (splice cs off vs) = splice (denL ν ρ cs) off (denL ν ρ vs) := by
  simp [splice, denL_append, denL_take, denL_drop, denL_length]

theorem splice_append {α : Type} (cs rest : List α) (off : Nat) (vs : List α) (h : off + vs.length ≤ cs.length) : splice (cs ++ rest) off vs = splice cs off vs ++ rest := by
  unfold splice
  rw [List.take_append_of_le_length (by omega), List.drop_append_of_le_length h]
  simp

theorem set_splice (l : List Int) (k : IntKind) (rest : List Value) (n : Nat) (x : Int) (h : n < l.length) :
    splice (l.map (Value.int k) ++ rest) n [Value.int k x] = (l.set n x).map (Value.int k) ++ rest := by
  rw [splice_append _ _ _ _ (by simp; omega)]
  congr 1
  unfold splice
  apply List.ext_getElem?
  intro j
  simp only [List.getElem?_append, List.getElem?_take, List.getElem?_drop, List.length_take, List.length_append, List.length_map, List.getElem?_map, List.getElem?_set, List.length_cons, List.length_nil]
  have hm : min n l.length = n := by omega
  rw [hm]
  by_cases h1 : j < n
  · have h2 : j < n + (0 + 1) := by omega
    have h5 : ¬ n = j := by omega
    have h6 : j < l.length := by omega
    simp [h1, h2, h5, h6]
  · by_cases h2 : j = n
    · subst h2
      simp [h]
    · have h3 : ¬ j < n + (0 + 1) := by omega
      have h4 : n + (0 + 1) + (j - (n + (0 + 1))) = j := by omega
      have h5 : ¬ n = j := by omega
      simp only [h3, if_false, h4, h5]

theorem storeX_run (h : HW B ν ρ hp w) {pc : PC} (hd : pcDen ν pc) {t : Nat} {p v : SV} {l : List (PC × Option Heap)} (hl : storeX P pc hp t p v = some l) :
    ∃ x ∈ l, pcDen ν x.1 ∧ ∀ hp', x.2 = some hp' → ∃ w', (Instr.storeAt t (p.den ν ρ) (v.den ν ρ)).run P w = .ok () w' ∧ HW B ν ρ hp' w' := by
  unfold storeX at hl
  split at hl
  · rename_i b off
    split at hl
    · rename_i cs ty ex hg
      split at hl
      · rename_i off
        split at hl
        · rename_i n hs
          split at hl
          · rename_i hc
            simp only [Bool.and_eq_true] at hc
            obtain ⟨⟨hn, hle⟩, hone⟩ := hc
            have hn := Nat.eq_of_beq_eq_true hn
            have hle := Nat.le_of_ble_eq_true hle
            cases hl
            refine ⟨_, by simp; rfl, pcDen_nil ν, fun hp' hv => ?_⟩
            cases hv
            obtain ⟨rest, hr, hex⟩ := h.row (hget_mem hg)
            have hst := run_storeCells_at P (ρ b) off ty (denL ν ρ v.cellsOf) 0 (denL ν ρ cs ++ rest).toArray w hr (by simp [denL_length]; omega) (fun x hx => by
              rw [denL_eq] at hx
              obtain ⟨y, hy, rfl⟩ := List.mem_map.1 hx
              exact one_den (List.all_eq_true.1 hone y hy))
            refine ⟨w.setRow (ρ b) (splice (denL ν ρ cs ++ rest) off (denL ν ρ v.cellsOf)).toArray, ?_, ?_⟩
            · have hsz : (v.den ν ρ).cells.size = n := by rw [cells_den]; simp [denL_length, hn]
              simp only [SV.den, SI.den, Instr.storeAt, Instr.sureAddr, storeVar, Sem.run_bind, Sem.run_pure, Result.andThen_ok, sizeT_run hs, Sem.run_ite, hsz, ne_eq, not_true_eq_false, if_false]
              rw [cells_den]
              simp only [Nat.add_zero] at hst
              simpa [splice] using hst
            · have hrow := setRow_heap w (ρ b) _ (splice (denL ν ρ cs ++ rest) off (denL ν ρ v.cellsOf)).toArray ty _ hr
              refine h.turn (by exact trivial) (hget_mem hg) (w' := w.setRow (ρ b) (splice (denL ν ρ cs ++ rest) off (denL ν ρ v.cellsOf)).toArray) rfl rfl rfl (by simp) (fun k hk => setRow_other w (ρ b) k _ hk) ?_
              rw [splice_append _ _ _ _ (by simp [denL_length]; omega)] at hrow ⊢
              cases ex
              · simp only [BlkDen]; exact ⟨⟨rest, by rw [splice_den]; exact hrow⟩, by simp⟩
              · simp only [BlkDen]; rw [splice_den]; rw [hex rfl] at hrow ⊢; exact ⟨by simpa using hrow, by simp⟩
          · cases hl
        · cases hl
      · cases hl
    · rename_i k l' c ty hg
      split at hl
      · rename_i j e hs
        split at hl
        · rename_i hk
          have hk := kBeq_eq hk
          subst hk
          cases hl
          obtain ⟨x, hx, h1, h2⟩ := ways_den (ν := ν) (cs := [SB.mkLe (.lit 0) off, SB.mkLt off (SI.mkLen l')]) (hset b (.row j (.mkSet l' off e) c ty) hp) hd
          refine ⟨x, hx, h1, fun hp' hv => ?_⟩
          obtain ⟨rfl, hc⟩ := h2 hp' hv
          have c1 := hc (SB.mkLe (.lit 0) off) (by simp)
          have c2 := hc (SB.mkLt off (SI.mkLen l')) (by simp)
          rw [SB.mkLe_den] at c1
          rw [SB.mkLt_den, SI.mkLen_den] at c2
          replace c1 : (0 : Int) ≤ off.den ν := of_decide_eq_true c1
          replace c2 := of_decide_eq_true c2
          obtain ⟨rest, hr, hcap⟩ := h.ints (hget_mem hg)
          have hlt : (off.den ν).toNat < (l'.den ν).length := by omega
          have hst := run_storeCells_at P (ρ b) (off.den ν).toNat ty [Value.int j (e.den ν)] 0 _ w hr (by simp; omega) (fun x hx => by simp at hx; subst hx; rfl)
          have hsp := set_splice (l'.den ν) j rest (off.den ν).toNat (e.den ν) hlt
          refine ⟨w.setRow (ρ b) (splice ((l'.den ν).map (Value.int j) ++ rest) (off.den ν).toNat [Value.int j (e.den ν)]).toArray, ?_, ?_⟩
          · simp only [SV.den, Instr.storeAt, Instr.sureAddr, storeVar, Sem.run_bind, Sem.run_pure, Result.andThen_ok, sizeT_run hs, Sem.run_ite, Value.cells, List.size_toArray, List.length_cons, List.length_nil, Nat.zero_add, ne_eq, not_true_eq_false, if_false]
            simp only [Nat.add_zero] at hst
            simpa [splice] using hst
          · have hrow := setRow_heap w (ρ b) _ (splice ((l'.den ν).map (Value.int j) ++ rest) (off.den ν).toNat [Value.int j (e.den ν)]).toArray ty _ hr
            refine h.turn (by exact trivial) (hget_mem hg) rfl rfl rfl (by simp) (fun k hk => setRow_other w (ρ b) k _ hk) ?_
            rw [hsp] at hrow ⊢
            simp only [BlkDen, SL.mkSet_den]
            exact ⟨⟨rest, hrow, by simpa using hcap.1, hcap.2⟩, by simp⟩
        · cases hl
      · cases hl
    · cases hl
  · cases hl
end
end Go.Sy
end

section
namespace Go.Sy
open Go

section
variable {P : Program} {G : Type} {ν : Env G} {ρ : Nat → Nat}

/-! ### build -/
theorem foldl_splice (off : Nat) : ∀ (l : List Value) (k : Nat) (cells : Array Value), off + k + l.length ≤ cells.size →
    (l.zipIdx k).foldl (fun cs (x : Value × Nat) => cs.setIfInBounds (off + x.2) x.1) cells = (splice cells.toList (off + k) l).toArray
  | [], k, cells, _ => by simp [splice]
  | v :: l, k, cells, h => by
    simp only [List.length_cons] at h
    simp only [List.zipIdx_cons, List.foldl_cons]
    rw [foldl_splice off l (k + 1) (cells.setIfInBounds (off + k) v) (by simp; omega)]
    congr 1
    unfold splice
    have hk : off + k < cells.toList.length := by simp; omega
    simp only [Array.toList_setIfInBounds, List.length_cons]
    apply List.ext_getElem?
    intro j
    simp only [List.getElem?_append, List.getElem?_take, List.getElem?_drop, List.getElem?_set, List.length_take, List.length_set, List.length_append, List.length_cons]
    have h1 : min (off + (k + 1)) cells.toList.length = off + (k + 1) := by omega
    have h2 : min (off + k) cells.toList.length = off + k := by omega
    rw [h1, h2]
    by_cases c1 : j < off + k
    · have : j < off + (k + 1) := by omega
      have h3 : j < off + (k + 1) + l.length := by omega
      have h4 : j < off + k + (l.length + 1) := by omega
      simp [c1, this, h3, h4]; omega
    · by_cases c2 : j = off + k
      · subst c2
        have h3 : off + k < off + (k + 1) := by omega
        have h4 : off + k < off + (k + 1) + l.length := by omega
        have h5 : off + k < cells.size := by simpa using hk
        simp [h3, h4, h5]
      · have h3 : ¬ j < off + (k + 1) := by omega
        by_cases c3 : j < off + (k + 1) + l.length
        · have h4 : j < off + k + (l.length + 1) := by omega
          have h5 : j - (off + k) = (j - (off + (k + 1))) + 1 := by omega
          simp [c1, h3, c3, h4, h5]
        · have h4 : ¬ j < off + k + (l.length + 1) := by omega
          have h5 : ¬ off + k = off + (k + 1) + l.length + (j - (off + (k + 1) + l.length)) := by omega
          have h6 : off + (k + 1) + l.length + (j - (off + (k + 1) + l.length)) = off + k + (l.length + 1) + (j - (off + k + (l.length + 1))) := by omega
          rw [if_neg c3, if_neg h4, if_neg (by omega), h6]

def denP (ν : Env G) (ρ : Nat → Nat) (l : List (Nat × SV)) : List (Nat × Value) := l.map fun x => (x.1, x.2.den ν ρ)

theorem fillX_den (place : Nat → Option (Nat × Nat)) : ∀ (parts : List (Nat × SV)) (cells cs : List SV), fillX place cells parts = some cs →
    Instr.fill place (denL ν ρ cells).toArray (denP ν ρ parts) = some (denL ν ρ cs).toArray
  | [], cells, cs, h => by simp only [fillX, Option.some.injEq] at h; subst h; simp [Instr.fill, denP]
  | (i, v) :: rest, cells, cs, h => by
    unfold fillX at h
    simp only [denP, List.map_cons, Instr.fill]
    split at h
    · cases h
    · rename_i off size hp
      split at h
      · rename_i hc
        simp only [Bool.and_eq_true] at hc
        have h1 := Nat.eq_of_beq_eq_true hc.1
        have h2 := Nat.le_of_ble_eq_true hc.2
        have hs : (v.den ν ρ).cells.size = v.cellsOf.length := by rw [cells_den]; simp [denL_length]
        have hcond : ((v.den ν ρ).cells.size ≠ size || decide (off + (v.den ν ρ).cells.size > (denL ν ρ cells).toArray.size)) = false := by
          simp [hs, h1, denL_length]; omega
        simp only [hp]
        rw [if_neg (by rw [hs]; simp only [List.size_toArray, denL_length, ne_eq, Bool.or_eq_true, decide_eq_true_eq, not_or]; omega)]
        have hf := foldl_splice off (denL ν ρ v.cellsOf) 0 (denL ν ρ cells).toArray (by simp [denL_length]; omega)
        have := fillX_den place rest _ cs h
        rw [splice_den] at this
        rw [cells_den]
        simp only [Nat.add_zero] at hf
        rw [← this]
        congr 1
        rw [← Array.foldl_toList]
        simp only [Array.toList_zipIdx]
        exact hf
      · cases h

theorem placesT_mapM : ∀ (fs : List Field) (ps : List (Nat × Nat)), placesT P fs = some ps → fs.mapM (fun f => (P.info? f.type).map fun i => (f.offset, i.size)) = some ps
  | [], ps, h => by simp only [placesT, Option.some.injEq] at h; subst h; rfl
  | f :: fs, ps, h => by
    unfold placesT at h
    split at h
    · rename_i n r hn hr
      cases h
      unfold sizeT at hn
      simp only [Option.map_eq_some_iff] at hn
      obtain ⟨i, hi, rfl⟩ := hn
      simp [List.mapM_cons, hi, placesT_mapM fs r hr]
    · cases h

theorem evalP_den {fr : List SV} {a : Act} (h : FR ν ρ fr a) : ∀ {ps : List (Nat × Operand)} {parts : List (Nat × SV)}, evalP fr ps = some parts → ps.map (fun x => (x.1, a.eval x.2)) = denP ν ρ parts
  | [], parts, hx => by simp only [evalP, Option.some.injEq] at hx; subst hx; rfl
  | (i, x) :: xs, parts, hx => by
    unfold evalP at hx
    split at hx
    · rename_i v vs hv hvs
      cases hx
      have := evalP_den h hvs
      simp only [denP] at this
      simp [denP, h.eval hv, this]
    · cases hx

theorem zeroT_info {t : Nat} {z : SV} (h : zeroT P t = some z) : ∃ i v, P.info? t = some i ∧ i.zero = some v ∧ v = z.den ν ρ := by
  unfold zeroT at h
  split at h
  · rename_i i hi
    simp only [Option.bind_eq_some_iff] at h
    obtain ⟨v, hv, hz⟩ := h
    exact ⟨i, v, hi, hv, (ofV_den ν ρ hz).symm⟩
  · cases h

theorem buildX_run {t : Nat} {parts : List (Nat × SV)} {v : SV} (h : buildX P t parts = some v) (w : World) :
    (Instr.build t (denP ν ρ parts).toArray).run P w = .ok (v.den ν ρ) w := by
  unfold buildX at h
  split at h
  · rename_i z fs hz hu
    split at h
    · rename_i ps hps
      simp only [Option.map_eq_some_iff] at h
      obtain ⟨cs, hcs, rfl⟩ := h
      obtain ⟨i, zv, hi, hzv, rfl⟩ := zeroT_info (ν := ν) (ρ := ρ) hz
      refine run_build w t _ _ ?_
      unfold Program.built
      simp only [hi, hu, hzv, placesT_mapM _ _ hps]
      rw [cells_den]
      have := fillX_den (ν := ν) (ρ := ρ) (fun i => ps[i]?) parts _ cs hcs
      simpa using this
    · cases h
  · rename_i z n e hz hu
    split at h
    · rename_i m hm
      simp only [Option.map_eq_some_iff] at h
      obtain ⟨cs, hcs, rfl⟩ := h
      obtain ⟨i, zv, hi, hzv, rfl⟩ := zeroT_info (ν := ν) (ρ := ρ) hz
      unfold sizeT at hm
      simp only [Option.map_eq_some_iff] at hm
      obtain ⟨ie, hie, rfl⟩ := hm
      refine run_build w t _ _ ?_
      unfold Program.built
      simp only [hi, hu, hzv, hie]
      rw [cells_den]
      have := fillX_den (ν := ν) (ρ := ρ) _ parts _ cs hcs
      simpa using this
    · cases h
  · cases h

theorem repL_get (l : List SV) : ∀ (n i : Nat), i < n * l.length → (repL n l)[i]? = l[i % l.length]?
  | 0, i, h => by simp at h
  | n + 1, i, h => by
    unfold repL
    by_cases hi : i < l.length
    · rw [List.getElem?_append_left hi, Nat.mod_eq_of_lt hi]
    · rw [List.getElem?_append_right (by omega), repL_get l n (i - l.length) (by rw [Nat.succ_mul] at h; omega)]
      rw [← Nat.mod_eq_sub_mod (by omega)]
theorem repL_length (l : List SV) : ∀ n, (repL n l).length = n * l.length
  | 0 => by simp [repL]
  | n + 1 => by simp [repL, repL_length l n, Nat.succ_mul]; omega

theorem List.getElem?_range_eq (n i : Nat) : (List.range n)[i]? = if i < n then some i else none := by
  by_cases h : i < n
  · simp [h]
  · rw [List.getElem?_eq_none (by simp; omega), if_neg h]
theorem range_rep (z : SV) (len n : Nat) (hn : z.cellsOf.length = n) (h1 : 1 ≤ n) :
    (Array.range (len * n)).map (fun i => (z.den ν ρ).cells[i % (z.den ν ρ).cells.size]!) = (denL ν ρ (repL len z.cellsOf)).toArray := by
  apply Array.ext'
  simp only [Array.toList_map, Array.toList_range]
  apply List.ext_getElem?
  intro i
  rw [List.getElem?_map, List.getElem?_range_eq]
  rw [cells_den, denL_get]
  simp only [List.size_toArray, denL_length, hn]
  by_cases hi : i < len * n
  · rw [repL_get _ _ _ (by rw [hn]; exact hi), hn]
    have hm : i % n < z.cellsOf.length := by rw [hn]; exact Nat.mod_lt _ (by omega)
    simp only [hi, if_true, Option.map_some, List.getElem?_eq_getElem hm]
    congr 1
    have hm2 : i % n < (denL ν ρ z.cellsOf).length := by rw [denL_length]; exact hm
    rw [getElem!_pos _ _ (by simpa using hm2)]
    have := denL_get (ν := ν) (ρ := ρ) z.cellsOf (i % n)
    rw [List.getElem?_eq_getElem hm2, List.getElem?_eq_getElem hm] at this
    simpa using this
  · have : ¬ i < (repL len z.cellsOf).length := by rw [repL_length, hn]; exact hi
    simp [hi, List.getElem?_eq_none (Nat.le_of_not_lt this)]

theorem buildSliceX_run {t len : Nat} {parts : List (Nat × SV)} {cs : List SV} {e : Nat} (h : buildSliceX P t len parts = some (cs, e)) (w : World) :
    (Instr.buildSlice t len (denP ν ρ parts).toArray).run P w = .ok (.slice (some ⟨w.heap.size, 0, none⟩) len len) (w.alloc (.cells (denL ν ρ cs).toArray e)) := by
  unfold buildSliceX at h
  split at h
  · rename_i e' hu
    split at h
    · rename_i n z hn hz
      split at h
      · rename_i hc
        simp only [Bool.and_eq_true] at hc
        have h1 := Nat.le_of_ble_eq_true hc.1.1
        have h2 := Nat.le_of_ble_eq_true hc.1.2
        have h3 := Nat.eq_of_beq_eq_true hc.2
        simp only [Option.map_eq_some_iff, Prod.mk.injEq] at h
        obtain ⟨cs', hcs, rfl, rfl⟩ := h
        have hf := fillX_den (ν := ν) (ρ := ρ) (fun i => some (i * n, n)) parts _ _ hcs
        have hr := range_rep (ν := ν) (ρ := ρ) z len n h3 h2
        have hbig : ¬ (len * n > 2 ^ 24) := by omega
        simp only [Instr.buildSlice, Sem.run_bind, run_underlying hu, Result.andThen_ok, sizeT_run hn, Sem.run_ite, hbig, if_false, Sem.run_pure]
        by_cases h0 : len * n = 0
        · have hnil : repL len z.cellsOf = [] := List.eq_nil_of_length_eq_zero (by rw [repL_length, h3]; exact h0)
          rw [hnil] at hf
          simp only [denL] at hf
          have hrg : Array.range 0 = #[] := rfl
          simp only [h0, if_true, hrg, Array.map_empty]
          simp [hf, newRow]
        · simp only [h0, if_false, Sem.run_bind, zeroT_run hz ν ρ, Result.andThen_ok, Sem.run_pure]
          rw [hr]
          simp [hf, newRow]
      · cases h
    · cases h
  · cases h
end
end Go.Sy
end

section
namespace Go.Sy
open Go

section
variable {P : Program} {G : Type} {ν : Env G} {ρ : Nat → Nat}

def binRun (P : Program) (op : BinOp) (t : TypeId) (xo yo : Operand) (x y : Value) (w : World) : Result Value :=
  (do eqGuard op t xo yo x y; binOp op t x y : Sem Value).run P w

theorem eqGuard_int (op : BinOp) (t : TypeId) (xo yo : Operand) (k : IntKind) (a : Int) (y : Value) (w : World) : (eqGuard op t xo yo (.int k a) y).run P w = .ok () w := by
  unfold eqGuard
  cases op <;> simp
theorem eqGuard_bool (op : BinOp) (t : TypeId) (xo yo : Operand) (a : Bool) (y : Value) (w : World) : (eqGuard op t xo yo (.bool a) y).run P w = .ok () w := by
  unfold eqGuard
  cases op <;> simp
theorem eqGuard_ptr (op : BinOp) (t : TypeId) (xo yo : Operand) (a : Option Addr) (y : Value) (w : World) : (eqGuard op t xo yo (.pointer a) y).run P w = .ok () w := by
  unfold eqGuard
  cases op <;> simp
theorem eqGuard_func (op : BinOp) (t : TypeId) (xo yo : Operand) (f : Fn) (a b : Array Value) (y : Value) (w : World) : (eqGuard op t xo yo (.func f a b) y).run P w = .ok () w := by
  unfold eqGuard
  cases op <;> simp
theorem eqGuard_nilFunc (op : BinOp) (t : TypeId) (xo yo : Operand) (y : Value) (w : World) : (eqGuard op t xo yo .nilFunc y).run P w = .ok () w := by
  unfold eqGuard
  cases op <;> simp
theorem eqGuard_slice (op : BinOp) (t : TypeId) (xo yo : Operand) (a : Option Addr) (n c : Nat) (y : Value) (w : World) : (eqGuard op t xo yo (.slice a n c) y).run P w = .ok () w := by
  unfold eqGuard
  cases op <;> simp

theorem equal_bool {t : TypeId} (hu : P.underlying t = some .bool) (a b : Bool) (w : World) : (Op.equal t (.bool a) (.bool b)).run P w = .ok (a == b) w := by
  show (Op.equalIn (9999 + 1) t (.bool a) (.bool b)).run P w = _
  rw [Op.equalIn]; simp [run_underlying hu]
theorem equal_ptr_nil {t e : TypeId} (hu : P.underlying t = some (.pointer e)) (a : Option Addr) (w : World) : (Op.equal t (.pointer a) (.pointer none)).run P w = .ok a.isNone w := by
  show (Op.equalIn (9999 + 1) t (.pointer a) (.pointer none)).run P w = _
  rw [Op.equalIn]; cases a <;> simp [run_underlying hu]
theorem equal_nil_ptr {t e : TypeId} (hu : P.underlying t = some (.pointer e)) (a : Option Addr) (w : World) : (Op.equal t (.pointer none) (.pointer a)).run P w = .ok a.isNone w := by
  show (Op.equalIn (9999 + 1) t (.pointer none) (.pointer a)).run P w = _
  rw [Op.equalIn]; cases a <;> simp [run_underlying hu]
theorem equal_fn_nil {t : TypeId} {p r : Array TypeId} {v : Bool} (hu : P.underlying t = some (.func p r v)) (f : Fn) (a b : Array Value) (w : World) : (Op.equal t (.func f a b) .nilFunc).run P w = .ok false w := by
  show (Op.equalIn (9999 + 1) t (.func f a b) .nilFunc).run P w = _
  rw [Op.equalIn]; simp [run_underlying hu]
theorem equal_nil_fn {t : TypeId} {p r : Array TypeId} {v : Bool} (hu : P.underlying t = some (.func p r v)) (f : Fn) (a b : Array Value) (w : World) : (Op.equal t .nilFunc (.func f a b)).run P w = .ok false w := by
  show (Op.equalIn (9999 + 1) t .nilFunc (.func f a b)).run P w = _
  rw [Op.equalIn]; simp [run_underlying hu]
theorem equal_nilFn {t : TypeId} {p r : Array TypeId} {v : Bool} (hu : P.underlying t = some (.func p r v)) (w : World) : (Op.equal t .nilFunc .nilFunc).run P w = .ok true w := by
  show (Op.equalIn (9999 + 1) t .nilFunc .nilFunc).run P w = _
  rw [Op.equalIn]; simp [run_underlying hu]
theorem equal_sl_nil {t e : TypeId} (hu : P.underlying t = some (.slice e)) (a : Option Addr) (n c : Nat) (w : World) : (Op.equal t (.slice a n c) (.slice none 0 0)).run P w = .ok a.isNone w := by
  show (Op.equalIn (9999 + 1) t (.slice a n c) (.slice none 0 0)).run P w = _
  rw [Op.equalIn]; cases a <;> simp [run_underlying hu]

theorem eqFields_flat (d : Nat) {X Y : List SV} (w : World) : ∀ (fs : List Field) (n : Nat) (e : SB), flatF P n fs = true → fs.length + n = X.length → fs.length + n = Y.length → eqL (X.drop n) (Y.drop n) = some e →
    (Op.eqFields (d + 1) (denL ν ρ X).toArray (denL ν ρ Y).toArray fs).run P w = .ok (e.den ν) w
  | [], n, e, _, hx, hy, he => by
    simp only [List.length_nil, Nat.zero_add] at hx hy
    rw [List.drop_of_length_le (by omega), List.drop_of_length_le (by omega)] at he
    simp only [eqL, Option.some.injEq] at he
    subst he
    simp [Op.eqFields, SB.den]
  | f :: fs, n, e, hf, hx, hy, he => by
    simp only [flatF, Bool.and_eq_true] at hf
    obtain ⟨⟨⟨h1, h2⟩, h3⟩, h4⟩ := hf
    have h1 := Nat.eq_of_beq_eq_true h1
    simp only [List.length_cons] at hx hy
    have lx : n < X.length := by omega
    have ly : n < Y.length := by omega
    rw [List.drop_eq_getElem_cons lx, List.drop_eq_getElem_cons ly] at he
    cases hu : P.underlying f.type with
    | none => rw [hu] at h2; cases h2
    | some td =>
      rw [hu] at h2
      cases td <;> simp at h2
      rename_i kk
      have hxi : X[n]? = some X[n] := List.getElem?_eq_getElem lx
      have hyi : Y[n]? = some Y[n] := List.getElem?_eq_getElem ly
      unfold eqL at he
      split at he
      · rename_i h _; cases h
      · rename_i k a r j b s hxa hyb
        simp only [List.cons.injEq] at hxa hyb
        obtain ⟨hxa, hr⟩ := hxa
        obtain ⟨hyb, hs⟩ := hyb
        split at he
        · rename_i hk
          have hk := kBeq_eq hk
          subst hk
          simp only [Option.map_eq_some_iff] at he
          obtain ⟨e', he', rfl⟩ := he
          subst hr hs
          have ih := eqFields_flat d w fs (n + 1) e' h4 (by omega) (by omega) he'
          have hagg : (isAgg f.type).run P w = .ok false w := by simp [isAgg, run_underlying hu]
          have p1 : (part f.type (denL ν ρ X).toArray f.offset).run P w = .ok (.int k (a.den ν)) w := by
            simp [part, hagg, h1, denL_get, hxi, hxa, SV.den]
          have p2 : (part f.type (denL ν ρ Y).toArray f.offset).run P w = .ok (.int k (b.den ν)) w := by
            simp [part, hagg, h1, denL_get, hyi, hyb, SV.den]
          have hnm : f.name ≠ "_" := by simpa using h3
          simp only [Op.eqFields, hnm, ne_eq, not_false_eq_true, if_true, Sem.run_bind, p1, p2, Result.andThen_ok, run_equalIn_int w d f.type k kk _ _ hu, Sem.run_ite, ih, Sem.run_pure]
          rw [SB.mkAnd_den, SB.mkEq_den]
          cases hq : (a.den ν == b.den ν) <;> simp
        · cases he
      · cases he

theorem shl_den (k : IntKind) (a : Int) (n : Nat) : k.wrap (a * ((2 ^ Nat.min n k.bits : Nat) : Int)) = k.wrap (a * 2 ^ (min ((n : Int)).toNat k.bits)) := by
  simp [Nat.min_def, Int.natCast_pow]
theorem shr_den (k : IntKind) (a : Int) (n : Nat) : a.fdiv ((2 ^ Nat.min n k.bits : Nat) : Int) = a.fdiv (2 ^ (min ((n : Int)).toNat k.bits)) := by
  simp [Nat.min_def, Int.natCast_pow]

theorem binX_run {pc : PC} {op : BinOp} {t : Nat} {x y : SV} {l : List (PC × Option SV)} (hd : pcDen ν pc) (h : binX P pc op t x y = some l) :
    ∃ r ∈ l, pcDen ν r.1 ∧ ∀ v, r.2 = some v → ∀ xo yo w, binRun P op t xo yo (x.den ν ρ) (y.den ν ρ) w = .ok (v.den ν ρ) w := by
  have one : ∀ (v : SV), l = [([], some v)] → (∀ xo yo w, binRun P op t xo yo (x.den ν ρ) (y.den ν ρ) w = .ok (v.den ν ρ) w) →
      ∃ r ∈ l, pcDen ν r.1 ∧ ∀ v, r.2 = some v → ∀ xo yo w, binRun P op t xo yo (x.den ν ρ) (y.den ν ρ) w = .ok (v.den ν ρ) w := fun v hl hr =>
    ⟨([], some v), by simp [hl], pcDen_nil ν, fun u hu => by cases hu; exact hr⟩
  unfold binX at h
  cases x with
  | int k a =>
    cases y with
    | int j b =>
      simp only at h
      split at h
      · -- shl
        split at h
        · rename_i n
          refine one _ (Option.some.inj h).symm fun xo yo w => ?_
          simp only [binRun, SV.den, Sem.run_bind, eqGuard_int, Result.andThen_ok, binOp, Op.shift, SI.den, SI.mkWrap_den, SI.mkMul_den]
          have hn : ¬ ((Int.ofNat n) < 0) := Int.not_lt.mpr (Int.natCast_nonneg n)
          rw [if_neg hn]
          simp
        · cases h
      · -- shr
        split at h
        · rename_i n
          refine one _ (Option.some.inj h).symm fun xo yo w => ?_
          simp only [binRun, SV.den, Sem.run_bind, eqGuard_int, Result.andThen_ok, binOp, Op.shift, SI.den, SI.mkFdiv_den]
          have hn : ¬ ((Int.ofNat n) < 0) := Int.not_lt.mpr (Int.natCast_nonneg n)
          rw [if_neg hn]
          simp
        · cases h
      · rename_i hsl hsr
        split at h
        · rename_i hk
          have hk := kBeq_eq hk
          subst hk
          have ez : (SB.eq b (.lit 0)).den ν = (b.den ν == 0) := rfl
          split at h
          all_goals try (refine one _ (Option.some.inj h).symm fun xo yo w => ?_; simp [binRun, SV.den, eqGuard_int, binOp, Op.intArith, Op.intBits, Op.intCmp, SI.mkWrap_den, SI.mkAdd_den, SI.mkSub_den, SI.mkMul_den, SI.mkBits_den, SB.mkEq_den, SB.mkNot_den, SB.mkLt_den, SB.mkLe_den, bitsDen]; done)
          all_goals try (refine one _ (Option.some.inj h).symm fun xo yo w => ?_; simp [binRun, SV.den, eqGuard_int, binOp, Op.intArith, Op.intBits, Op.intCmp, SI.mkWrap_den, SI.mkAdd_den, SI.mkSub_den, SI.mkMul_den, SI.mkBits_den, SB.mkEq_den, SB.mkNot_den, SB.mkLt_den, SB.mkLe_den, bitsDen, bne]; done)
          · -- quo
            split at h
            · rename_i hq
              have hb : ¬ (b.den ν = 0) := by
                have := SB.known_den hd hq
                rw [SB.mkEq_den] at this
                simpa [SI.den] using this
              refine one _ (Option.some.inj h).symm fun xo yo w => ?_
              simp [binRun, SV.den, eqGuard_int, binOp, Op.intDiv, hb, SI.mkWrap_den, SI.mkTdiv_den]
            · cases h
              by_cases hb : b.den ν = 0
              · exact ⟨_, by simp; exact .inr rfl, pcDen_one (show (SB.eq b (.lit 0)).den ν = true by rw [ez]; simp [hb]), fun v hv => by cases hv⟩
              · refine ⟨_, by simp; exact .inl rfl, pcDen_one (show (SB.eq b (.lit 0)).den ν = false by rw [ez]; simp [hb]), fun v hv => ?_⟩
                cases hv
                intro xo yo w
                simp [binRun, SV.den, eqGuard_int, binOp, Op.intDiv, hb, SI.mkWrap_den, SI.mkTdiv_den]
          · -- rem
            split at h
            · rename_i hq
              have hb : ¬ (b.den ν = 0) := by
                have := SB.known_den hd hq
                rw [SB.mkEq_den] at this
                simpa [SI.den] using this
              refine one _ (Option.some.inj h).symm fun xo yo w => ?_
              simp [binRun, SV.den, eqGuard_int, binOp, Op.intDiv, hb, SI.mkTmod_den]
            · cases h
              by_cases hb : b.den ν = 0
              · exact ⟨_, by simp; exact .inr rfl, pcDen_one (show (SB.eq b (.lit 0)).den ν = true by rw [ez]; simp [hb]), fun v hv => by cases hv⟩
              · refine ⟨_, by simp; exact .inl rfl, pcDen_one (show (SB.eq b (.lit 0)).den ν = false by rw [ez]; simp [hb]), fun v hv => ?_⟩
                cases hv
                intro xo yo w
                simp [binRun, SV.den, eqGuard_int, binOp, Op.intDiv, hb, SI.mkTmod_den]
          · cases h
        · cases h
    | _ => simp at h
  | bool a =>
    cases y with
    | bool b =>
      simp only at h
      split at h
      · rename_i hu
        refine one _ (Option.some.inj h).symm fun xo yo w => ?_
        simp [SB.mkSame_den, SB.mkNot_den, binRun, SV.den, eqGuard_bool, binOp, equal_bool hu, SB.den]
      · rename_i hu
        refine one _ (Option.some.inj h).symm fun xo yo w => ?_
        simp [SB.mkSame_den, SB.mkNot_den, binRun, SV.den, eqGuard_bool, binOp, equal_bool hu, SB.den]
      · cases h
    | _ => simp at h
  | ptr b off =>
    cases y with
    | nilPtr =>
      simp only at h
      split at h
      · rename_i hu
        refine one _ (Option.some.inj h).symm fun xo yo w => ?_
        first | (simp [binRun, SV.den, eqGuard_ptr, binOp, equal_ptr_nil hu, SB.den]; done) | (simp [binRun, SV.den, eqGuard_ptr, binOp, equal_nil_ptr hu, SB.den]; done)
      · rename_i hu
        refine one _ (Option.some.inj h).symm fun xo yo w => ?_
        first | (simp [binRun, SV.den, eqGuard_ptr, binOp, equal_ptr_nil hu, SB.den]; done) | (simp [binRun, SV.den, eqGuard_ptr, binOp, equal_nil_ptr hu, SB.den]; done)
      · cases h
    | _ => simp at h
  | nilPtr =>
    cases y with
    | nilPtr =>
      simp only at h
      split at h
      · rename_i hu
        refine one _ (Option.some.inj h).symm fun xo yo w => ?_
        first | (simp [binRun, SV.den, eqGuard_ptr, binOp, equal_ptr_nil hu, SB.den]; done) | (simp [binRun, SV.den, eqGuard_ptr, binOp, equal_nil_ptr hu, SB.den]; done)
      · rename_i hu
        refine one _ (Option.some.inj h).symm fun xo yo w => ?_
        first | (simp [binRun, SV.den, eqGuard_ptr, binOp, equal_ptr_nil hu, SB.den]; done) | (simp [binRun, SV.den, eqGuard_ptr, binOp, equal_nil_ptr hu, SB.den]; done)
      · cases h
    | ptr b off =>
      simp only at h
      split at h
      · rename_i hu
        refine one _ (Option.some.inj h).symm fun xo yo w => ?_
        first | (simp [binRun, SV.den, eqGuard_ptr, binOp, equal_ptr_nil hu, SB.den]; done) | (simp [binRun, SV.den, eqGuard_ptr, binOp, equal_nil_ptr hu, SB.den]; done)
      · rename_i hu
        refine one _ (Option.some.inj h).symm fun xo yo w => ?_
        first | (simp [binRun, SV.den, eqGuard_ptr, binOp, equal_ptr_nil hu, SB.den]; done) | (simp [binRun, SV.den, eqGuard_ptr, binOp, equal_nil_ptr hu, SB.den]; done)
      · cases h
    | _ => simp at h
  | fn f a b =>
    cases y with
    | nilFunc =>
      simp only at h
      split at h
      · rename_i hu
        refine one _ (Option.some.inj h).symm fun xo yo w => ?_
        simp [binRun, SV.den, eqGuard_func, binOp, equal_fn_nil hu, SB.den]
      · rename_i hu
        refine one _ (Option.some.inj h).symm fun xo yo w => ?_
        simp [binRun, SV.den, eqGuard_func, binOp, equal_fn_nil hu, SB.den]
      · cases h
    | _ => simp at h
  | nilFunc =>
    cases y with
    | nilFunc =>
      simp only at h
      split at h
      · rename_i hu
        refine one _ (Option.some.inj h).symm fun xo yo w => ?_
        first | (simp [binRun, SV.den, eqGuard_nilFunc, binOp, equal_nil_fn hu, SB.den]; done) | (simp [binRun, SV.den, eqGuard_nilFunc, binOp, equal_nilFn hu, SB.den]; done)
      · rename_i hu
        refine one _ (Option.some.inj h).symm fun xo yo w => ?_
        first | (simp [binRun, SV.den, eqGuard_nilFunc, binOp, equal_nil_fn hu, SB.den]; done) | (simp [binRun, SV.den, eqGuard_nilFunc, binOp, equal_nilFn hu, SB.den]; done)
      · cases h
    | fn f a b =>
      simp only at h
      split at h
      · rename_i hu
        refine one _ (Option.some.inj h).symm fun xo yo w => ?_
        first | (simp [binRun, SV.den, eqGuard_nilFunc, binOp, equal_nil_fn hu, SB.den]; done) | (simp [binRun, SV.den, eqGuard_nilFunc, binOp, equal_nilFn hu, SB.den]; done)
      · rename_i hu
        refine one _ (Option.some.inj h).symm fun xo yo w => ?_
        first | (simp [binRun, SV.den, eqGuard_nilFunc, binOp, equal_nil_fn hu, SB.den]; done) | (simp [binRun, SV.den, eqGuard_nilFunc, binOp, equal_nilFn hu, SB.den]; done)
      · cases h
    | _ => simp at h
  | agg xs =>
    cases y with
    | agg ys =>
      simp only at h
      split at h
      · rename_i fs hu
        split at h
        · rename_i hc
          simp only [Bool.and_eq_true, Bool.not_eq_true'] at hc
          obtain ⟨⟨⟨⟨c1, c2⟩, c3⟩, c4⟩, c5⟩ := hc
          have c2 := Nat.eq_of_beq_eq_true c2
          have c3 := Nat.eq_of_beq_eq_true c3
          have hfo : P.fieldsOf t = fs := by simp [Program.fieldsOf, hu]
          have key : ∀ e, eqL xs ys = some e → ∀ w, (Op.equalIn 10000 t (.agg (denL ν ρ xs).toArray) (.agg (denL ν ρ ys).toArray)).run P w = .ok (e.den ν) w := by
            intro e he w
            show (Op.equalIn (9998 + 1 + 1) t _ _).run P w = _
            rw [run_equalIn_struct w (9998 + 1) t _ _ (by rw [hfo]; exact hu) c4, hfo]
            exact eqFields_flat 9998 w fs.toList 0 e c1 (by simpa using c2) (by simpa using c3) (by simpa using he)
          split at h
          · rename_i e he
            refine one _ (Option.some.inj h).symm fun xo yo w => ?_
            simp only [binRun, SV.den, Sem.run_bind, run_eqGuard_agg w _ t xo yo _ _ c5, Result.andThen_ok, run_eql_struct, key e he w]
          · rename_i e he
            refine one _ (Option.some.inj h).symm fun xo yo w => ?_
            simp only [binRun, SV.den, Sem.run_bind, run_eqGuard_agg w _ t xo yo _ _ c5, Result.andThen_ok, run_neq_struct, key e he w, SB.mkNot_den]
          · cases h
        · cases h
      · cases h
    | _ => simp at h
  | nilSl =>
    cases y with
    | nilSl =>
      simp only at h
      split at h
      · rename_i hu
        refine one _ (Option.some.inj h).symm fun xo yo w => ?_
        simp [binRun, SV.den, eqGuard_slice, binOp, equal_sl_nil hu, SB.den]
      · rename_i hu
        refine one _ (Option.some.inj h).symm fun xo yo w => ?_
        simp [binRun, SV.den, eqGuard_slice, binOp, equal_sl_nil hu, SB.den]
      · cases h
    | _ => simp at h
  | sl b o n c =>
    cases y with
    | nilSl =>
      simp only at h
      split at h
      · rename_i hu
        refine one _ (Option.some.inj h).symm fun xo yo w => ?_
        simp [binRun, SV.den, eqGuard_slice, binOp, equal_sl_nil hu, SB.den]
      · rename_i hu
        refine one _ (Option.some.inj h).symm fun xo yo w => ?_
        simp [binRun, SV.den, eqGuard_slice, binOp, equal_sl_nil hu, SB.den]
      · cases h
    | _ => simp at h
  | emp i =>
    cases y with
    | nilSl =>
      simp only at h
      split at h
      · rename_i hu
        refine one _ (Option.some.inj h).symm fun xo yo w => ?_
        simp [binRun, SV.den, eqGuard_slice, binOp, equal_sl_nil hu, SB.den]
      · rename_i hu
        refine one _ (Option.some.inj h).symm fun xo yo w => ?_
        simp [binRun, SV.den, eqGuard_slice, binOp, equal_sl_nil hu, SB.den]
      · cases h
    | _ => simp at h
  | _ => cases y <;> simp at h
end
end Go.Sy
end

section
namespace Go.Sy
open Go

section
variable {P : Program} {G : Type} {ν : Env G} {ρ : Nat → Nat}

theorem unX_run {op : UnOp} {x v : SV} (h : unX op x = some v) (w : World) : (Op.unary op (x.den ν ρ)).run P w = .ok (v.den ν ρ) w := by
  unfold unX at h
  split at h
  · split at h
    · cases h; simp [SV.den, Op.unary, Op.intArith, SI.mkWrap_den, SI.mkSub_den, SI.den]
    · cases h; simp [SV.den, Op.unary, Op.intBits, SI.mkBits_den, SI.den, bitsDen]
    · cases h
  · split at h
    · cases h; simp [SV.den, Op.unary, SB.mkNot_den]
    · cases h
  · cases h

theorem run_sliceBound (k : IntKind) (n y : Nat) (c : BoundsCode) (h : n ≤ y) (w : World) : (Instr.sliceBound (.int k (n : Int)) y c).run P w = .ok n w := by
  have : (0 : Int) ≤ n ∧ (n : Int) ≤ y := ⟨by omega, by omega⟩
  simp [Instr.sliceBound, asIntOf, this, h]

/-- the three bounds, all literal. -/
theorem run_bounds (len cap m hh l : Nat) (lo hi mx : Option Value)
    (hm : (mx = none ∧ m = cap) ∨ ∃ k, mx = some (.int k (m : Int))) (hh' : (hi = none ∧ mx = none ∧ hh = len) ∨ ∃ k, hi = some (.int k (hh : Int))) (hl : (lo = none ∧ l = 0) ∨ ∃ k, lo = some (.int k (l : Int)))
    (h1 : m ≤ cap) (h2 : hh ≤ m) (h3 : l ≤ hh) (w : World) : (Instr.sliceBounds true len cap lo hi mx).run P w = .ok (l, hh, m) w := by
  unfold Instr.sliceBounds
  rcases hm with ⟨rfl, rfl⟩ | ⟨k, rfl⟩ <;> rcases hh' with ⟨rfl, hx, rfl⟩ | ⟨k', rfl⟩ <;> rcases hl with ⟨rfl, rfl⟩ | ⟨k'', rfl⟩ <;>
    first
      | (cases hx; done)
      | simp [run_sliceBound, h1, h2, h3]

theorem litX_den {d k : Nat} {x : Option SV} (h : litX d x = some k) : (x = none ∧ k = d) ∨ ∃ j, (x.map (·.den ν ρ)) = some (.int j (k : Int)) := by
  unfold litX at h
  split at h
  · cases h; exact .inl ⟨rfl, rfl⟩
  · rename_i j n; cases h; exact .inr ⟨j, by simp [SV.den, SI.den]⟩
  · cases h

theorem sliceX_run {t : Nat} {x v : SV} {lo hi mx : Option SV} (h : sliceX P t x lo hi mx = some v) (w : World) :
    (Instr.sliceAt t (x.den ν ρ) (lo.map (·.den ν ρ)) (hi.map (·.den ν ρ)) (mx.map (·.den ν ρ))).run P w = .ok (v.den ν ρ) w := by
  unfold sliceX at h
  split at h
  · rename_i e hu
    split at h
    · rename_i n hn
      split at h
      · cases h
      · rename_i hb
        have key : ∀ (len cap m hh l : Nat), litX cap mx = some m → litX len hi = some hh → litX 0 lo = some l → m ≤ cap → hh ≤ m → l ≤ hh →
            (Instr.sliceBounds true len cap (lo.map (·.den ν ρ)) (hi.map (·.den ν ρ)) (mx.map (·.den ν ρ))).run P w = .ok (l, hh, m) w := by
          intro len cap m hh l hm hhh hl c1 c2 c3
          have g1 := litX_den (ν := ν) (ρ := ρ) hm
          have g2 := litX_den (ν := ν) (ρ := ρ) hhh
          have g3 := litX_den (ν := ν) (ρ := ρ) hl
          refine run_bounds (P := P) len cap m hh l _ _ _ (g1.imp (fun h => by simp [h.1, h.2]) id) ?_ (g3.imp (fun h => by simp [h.1, h.2]) id) c1 c2 c3 w
          rcases g2 with ⟨h1, h2⟩ | h
          · refine .inl ⟨by simp [h1], ?_, h2⟩
            rw [h1] at hb
            cases mx <;> simp_all
          · exact .inr h
        split at h
        · -- nil
          split at h
          · rename_i m hh l hm hhh hl
            split at h
            · rename_i hc
              simp only [Bool.and_eq_true] at hc
              have c1 := Nat.eq_of_beq_eq_true hc.1.1
              have c2 := Nat.eq_of_beq_eq_true hc.1.2
              have c3 := Nat.eq_of_beq_eq_true hc.2
              subst c1 c2 c3
              cases h
              have := key 0 0 0 0 0 hm hhh hl (Nat.le_refl _) (Nat.le_refl _) (Nat.le_refl _)
              simp [Instr.sliceAt, Instr.slice, SV.den, run_underlying hu, this, sizeT_run hn]
            · cases h
          · cases h
        · -- literal
          rename_i b off len cap
          split at h
          · rename_i m hh l hm hhh hl
            split at h
            · rename_i hc
              simp only [Bool.and_eq_true] at hc
              have c1 := Nat.le_of_ble_eq_true hc.1.1
              have c2 := Nat.le_of_ble_eq_true hc.1.2
              have c3 := Nat.le_of_ble_eq_true hc.2
              cases h
              have := key len cap m hh l hm hhh hl c1 c2 c3
              have e1 : (Int.ofNat len).toNat = len := rfl
              have e2 : (Int.ofNat cap).toNat = cap := rfl
              have e3 : (Int.ofNat off).toNat = off := rfl
              simp only [Instr.sliceAt, Instr.slice, SV.den, SI.den, Sem.run_bind, run_underlying hu, Result.andThen_ok, e1, e2, e3, this, sizeT_run hn, Sem.run_pure]
              by_cases hml : m = l
              · subst hml; simp
              · have : Nat.beq m l = false := by
                  cases hq : Nat.beq m l
                  · rfl
                  · exact absurd (Nat.eq_of_beq_eq_true hq) hml
                simp [hml, this, add_none]
            · cases h
          · cases h
        · cases h
    · cases h
  · cases h

theorem lenX_den {x : SV} {n : Nat} (h : lenX x = some n) : (x = .nilSl ∧ n = 0) ∨ ∃ b off cap, x = .sl b off (.lit (.ofNat n)) cap := by
  unfold lenX at h
  split at h
  · cases h; exact .inl ⟨rfl, rfl⟩
  · rename_i b off m cap; cases h; exact .inr ⟨b, off, cap, rfl⟩
  · cases h

variable {B : Base} {hp : Heap} {w : World}
theorem cellsX_den (h : HW B ν ρ hp w) {k : Nat} {b : Nat} {off len cap : SI} {cs : List SV} (hc : cellsX hp k (.sl b off len cap) = some cs) :
    cs.length = k ∧ ∀ j u, (denL ν ρ cs)[j]? = some u → w.cell? ((⟨ρ b, (off.den ν).toNat, none⟩ : Addr).add j) = some u := by
  unfold cellsX at hc
  split at hc
  · cases ‹SV.sl b off len cap = SV.nilSl›
  · rename_i b' off' l' c' heq
    cases heq
    split at hc
    · rename_i cells ty ex hg
      split at hc
      · rename_i hle
        have hle' := Nat.le_of_ble_eq_true hle
        cases hc
        obtain ⟨rest, hr, _⟩ := h.row (hget_mem hg)
        refine ⟨by simp; omega, fun j u hj => ?_⟩
        rw [add_none, cell_at hr]
        rw [denL_take, denL_drop, List.getElem?_take] at hj
        split at hj
        · rw [List.getElem?_drop] at hj
          rw [List.getElem?_append_left]
          · exact hj
          · exact (List.getElem?_eq_some_iff.1 hj).1
        · cases hj
      · cases hc
    · cases hc
  · cases hc


theorem arr_app (l : List Value) (A : Array Value) : l.toArray ++ A = (l ++ A.toList).toArray := by
  apply Array.ext'; simp

theorem HW.grown (h : HW B ν ρ hp w) {nm e c : Nat} {cs : List SV} {rest : List Value} (hav' : hav nm (nm + 1) hp = true) (hcs : avL nm (nm + 1) cs = true) :
    HW B (ν.updI nm c) (upd ρ nm w.heap.size) (hadd nm (.cells cs e false) hp) (w.drew.alloc (.cells (denL ν ρ cs ++ rest).toArray e)) := by
  have h' := h.drew
  have hag : Agree nm (nm + 1) ν (ν.updI nm c) ρ (upd ρ nm w.drew.heap.size) := agree_updI nm w.heap.size c
  refine h'.new (ν' := ν.updI nm c) (n := nm) (b := .cells cs e false) (o := .cells (denL ν ρ cs ++ rest).toArray e) hag hav' ?_
  simp only [BlkDen]
  refine ⟨⟨rest, ?_⟩, by simp [upd]⟩
  rw [show upd ρ nm w.drew.heap.size nm = w.drew.heap.size by simp [upd], denL_agree hag cs hcs]
  exact heap_alloc_new w.drew _

theorem appendX_run (h : HW B ν ρ hp w) {nm t : Nat} {s x v : SV} {hp' : Heap} (hav' : hav nm (nm + 1) hp = true) (ha : appendX P nm hp t s x = some (v, hp')) (ty : TypeId) :
    ∃ ν' ρ' w', Agree nm (nm + 1) ν ν' ρ ρ' ∧ (Builtin.append_ #[t, t] ty #[s.den ν ρ, x.den ν ρ]).run P w = .ok (v.den ν' ρ') w' ∧ HW B ν' ρ' hp' w' := by
  unfold appendX at ha
  split at ha
  · rename_i e hu
    split at ha
    · rename_i n z ls lx inf hn hz hls hlx hinf
      obtain ⟨i, zv, hi, hzv, hzd⟩ := zeroT_info (ν := ν) (ρ := ρ) hz
      have hii : inf = i := Option.some.inj (hinf.symm.trans hi)
      subst hii
      have hsz : inf.size = n := by unfold sizeT at hn; rw [hi] at hn; simpa using hn
      have key : ∀ cap, ((s = .nilSl ∧ cap = 0) ∨ ∃ b off len, s = .sl b off len (.lit (.ofNat cap))) → appendX.grow nm hp s x e n z ls lx cap inf.bytes = some (v, hp') →
          ∃ ν' ρ' w', Agree nm (nm + 1) ν ν' ρ ρ' ∧ (Builtin.append_ #[t, t] ty #[s.den ν ρ, x.den ν ρ]).run P w = .ok (v.den ν' ρ') w' ∧ HW B ν' ρ' hp' w' := by
        intro cap hs hg
        unfold appendX.grow at hg
        split at hg
        · -- nothing
          rename_i hc
          simp only [Bool.and_eq_true] at hc
          have c1 := Nat.eq_of_beq_eq_true hc.1
          have c2 := Nat.le_of_ble_eq_true hc.2
          cases hg
          refine ⟨ν, ρ, w, Agree.refl _ _ _ _, ?_, h⟩
          subst c1
          have hx : ∃ a c, x.den ν ρ = .slice a 0 c := by
            rcases lenX_den hlx with ⟨rfl, _⟩ | ⟨b, off, c, rfl⟩
            · exact ⟨none, 0, rfl⟩
            · exact ⟨_, _, rfl⟩
          obtain ⟨a, c, hx⟩ := hx
          rw [hx]
          have hf : ∀ (a : Option Addr), (Builtin.firstCells inf.size 0 (.slice a 0 c)).run P w = .ok #[] w := by
            intro a; cases a <;> simp [Builtin.firstCells, loadCells, loadCellsFrom]
          rcases hs with ⟨rfl, rfl⟩ | ⟨b, off, len, rfl⟩
          · simp [SV.den, Builtin.append_, run_underlying hu, sizeOf, typeInfo, hi, Builtin.lenOf, hf]
          · rcases lenX_den hls with ⟨h0, _⟩ | ⟨b', off', c', h0⟩
            · cases h0
            · cases h0
              have : ls ≤ cap := c2
              simp [SV.den, SI.den, Builtin.append_, run_underlying hu, sizeOf, typeInfo, hi, Builtin.lenOf, hf, this, storeCells]
        · split at hg
          · cases hg
          · rename_i hroom
            split at hg
            · rename_i hc
              simp only [Bool.and_eq_true] at hc
              obtain ⟨⟨⟨⟨⟨⟨d1, d2⟩, d3⟩, d4⟩, d5⟩, d6⟩, d7⟩ := hc
              have d1 := Nat.le_of_ble_eq_true d1
              have d2 := Nat.le_of_ble_eq_true d2
              have d3 := Nat.le_of_ble_eq_true d3
              have d4 := Nat.le_of_ble_eq_true d4
              have hlt : cap < ls + lx := by
                rcases Nat.lt_or_ge cap (ls + lx) with h | h
                · exact h
                · exact absurd (Nat.ble_eq_true_of_le h) hroom
              split at hg
              · rename_i old new hold hnew
                split at hg
                · rename_i hav2
                  cases hg
                  rcases lenX_den hlx with ⟨rfl, h0⟩ | ⟨bx, offx, cx, rfl⟩
                  · omega
                  · obtain ⟨hl2, hn2⟩ := cellsX_den h hnew
                    have hmul : (ls + lx) * inf.bytes ≤ 1024 * 1024 := Nat.mul_le_mul d2 d4
                    rcases hs with ⟨rfl, rfl⟩ | ⟨b, off, len, rfl⟩
                    · rcases lenX_den hls with ⟨_, h0⟩ | ⟨b', off', c', h0⟩
                      · subst h0
                        simp only [Nat.zero_mul, cellsX] at hold
                        have hold0 : old = [] := by simpa using hold.symm
                        subst hold0
                        have hr := run_append_nil (P := P) w t ty e inf zv hu hi hzv ⟨ρ bx, (offx.den ν).toNat, none⟩ lx (cx.den ν).toNat (denL ν ρ new) (by rw [denL_length, hl2, hsz]) hn2 (by omega) (by omega) (by simp only [Nat.zero_add] at hmul; omega)
                        refine ⟨_, _, _, agree_updI nm w.heap.size ((grownCap w lx 0 e : Nat) : Int), ?_, h.grown (cs := [] ++ new) (rest := (Builtin.zeroCells zv.cells (grownCap w lx 0 e - lx)).toList) hav' hav2⟩
                        simp only [SV.den, SI.den] at hr ⊢
                        rw [show (Int.ofNat lx).toNat = lx from rfl, hr]
                        simp [upd, Env.updI]
                        rw [arr_app]
                      · cases h0
                    · rcases lenX_den hls with ⟨h0, _⟩ | ⟨b', off', c', h0⟩
                      · cases h0
                      · cases h0
                        obtain ⟨hl1, hn1⟩ := cellsX_den h hold
                        have hr := run_append_grow (P := P) w t ty e inf zv hu hi hzv ⟨ρ b, (off.den ν).toNat, none⟩ ls cap (denL ν ρ old) (by rw [denL_length, hl1, hsz]) hn1 ⟨ρ bx, (offx.den ν).toNat, none⟩ lx (cx.den ν).toNat (denL ν ρ new) (by rw [denL_length, hl2, hsz]) hn2 hlt (by omega) (growslice_fits (by omega) (by omega))
                        refine ⟨_, _, _, agree_updI nm w.heap.size ((grownCap w (ls + lx) cap e : Nat) : Int), ?_, h.grown (cs := old ++ new) (rest := (Builtin.zeroCells zv.cells (grownCap w (ls + lx) cap e - (ls + lx))).toList) hav' hav2⟩
                        simp only [SV.den, SI.den] at hr ⊢
                        rw [show (Int.ofNat lx).toNat = lx from rfl, show (Int.ofNat ls).toNat = ls from rfl, show (Int.ofNat cap).toNat = cap from rfl, hr]
                        simp [upd, Env.updI, denL_append]
                        exact ⟨by omega, by rw [arr_app, List.append_assoc]⟩
                · cases hg
              · cases hg
            · cases hg
      split at ha
      · exact key 0 (.inl ⟨rfl, rfl⟩) ha
      · rename_i b off len cap; exact key cap (.inr ⟨b, off, len, rfl⟩) ha
      · cases ha
    · cases ha
  · cases ha
/-! ### rows of integers -/
theorem toSL_den {k : IntKind} : ∀ {cs : List SV} {l : SL}, toSL k cs = some l → denL ν ρ cs = (l.den ν).map (Value.int k)
  | [], l, h => by simp only [toSL, Option.some.injEq] at h; subst h; simp [denL, SL.den]
  | .int j e :: r, l, h => by
    unfold toSL at h
    split at h
    · rename_i hk
      have hk := kBeq_eq hk
      subst hk
      simp only [Option.map_eq_some_iff] at h
      obtain ⟨l', hl, rfl⟩ := h
      simp [denL, SV.den, SL.den, toSL_den hl]
    · cases h
  | .bool _ :: _, _, h | .gv _ _ _ :: _, _, h | .osl _ _ _ :: _, _, h | .ptr _ _ :: _, _, h | .nilPtr :: _, _, h | .nilFunc :: _, _, h | .fn _ _ _ :: _, _, h | .nilSl :: _, _, h | .emp _ :: _, _, h | .dead :: _, _, h | .sl _ _ _ _ :: _, _, h | .opq _ :: _, _, h | .agg _ :: _, _, h | .tup _ :: _, _, h | .ifc _ _ :: _, _, h | .nilIf :: _, _, h => by simp [toSL] at h

theorem asRow_den (h : HW B ν ρ hp w) {b : Nat} {bk : SBk} (hg : (b, bk) ∈ hp) {k : IntKind} {l : SL} {c : SI} {ty : Nat} (ha : asRow P bk = some (k, l, c, ty)) :
    ∃ rest : List Value, w.heap[ρ b]? = some (.cells ((l.den ν).map (Value.int k) ++ rest).toArray ty (0, 0)) ∧ c.den ν = ((l.den ν).length + rest.length : Nat) ∧ c.den ν ≤ 9223372036854775807 := by
  unfold asRow at ha
  split at ha
  · cases ha; exact h.ints hg
  · rename_i cs ty'
    split at ha
    · rename_i kk hu
      split at ha
      · rename_i hle
        have hle := Nat.le_of_ble_eq_true hle
        simp only [Option.map_eq_some_iff, Prod.mk.injEq] at ha
        obtain ⟨l', hl, rfl, rfl, rfl, rfl⟩ := ha
        obtain ⟨rest, hr, hex⟩ := h.row hg
        have hre := hex rfl
        subst hre
        have ht := toSL_den (ν := ν) (ρ := ρ) hl
        have hlen : (l'.den ν).length = cs.length := by
          have := congrArg List.length ht
          simpa [denL_length] using this.symm
        refine ⟨[], by rw [← ht]; exact hr, by simp [SI.den, hlen], by simp only [SI.den]; omega⟩
      · cases ha
    · cases ha
  · cases ha

/-- A slice's value reads as these values. -/
def Reads (w : World) (v : Value) (xs : List Value) : Prop := ∃ a n c, v = .slice a n c ∧ xs.length = n ∧ ((xs = [] ∧ a = none) ∨ ∃ ad, a = some ad ∧ ∀ j u, xs[j]? = some u → w.cell? (ad.add j) = some u)

theorem listX_den (h : HW B ν ρ hp w) {pc : PC} (hd : pcDen ν pc) {k : IntKind} {x : SV} {ls : List (PC × Option SL)} (hl : listX P pc hp k x = some ls) :
    ∃ r ∈ ls, pcDen ν r.1 ∧ ∀ nl, r.2 = some nl → Reads w (x.den ν ρ) ((nl.den ν).map (Value.int k)) := by
  unfold listX at hl
  split at hl
  · cases hl
    refine ⟨_, by simp; rfl, pcDen_nil ν, fun nl hn => ?_⟩
    cases hn
    exact ⟨none, 0, 0, rfl, by simp [SL.den], .inl ⟨by simp [SL.den], rfl⟩⟩
  · cases hl
    refine ⟨_, by simp; rfl, pcDen_nil ν, fun nl hn => ?_⟩
    cases hn
    exact ⟨_, 0, 0, rfl, by simp [SL.den], .inr ⟨_, rfl, fun j u hu => by simp [SL.den] at hu⟩⟩
  · rename_i b off len cap
    split at hl
    · rename_i j o l hg
      split at hl
      · rename_i hk
        simp only [Bool.and_eq_true] at hk
        have hk1 := kBeq_eq hk.1
        have hk2 := SI.beq_eq hk.2
        subst hk1 hk2
        obtain ⟨h0, hcell⟩ := h.view (hget_mem hg)
        have key : ∀ (xs : List Int) (n : Nat), (len.den ν).toNat = n → xs.length = n → (∀ (i : Nat) (u : Int), xs[i]? = some u → (l.den ν)[i]? = some u) → Reads w ((SV.sl b off len cap).den ν ρ) (xs.map (Value.int j)) := by
          intro xs n hn hlen hsub
          refine ⟨_, _, _, rfl, by simp [hlen, hn], .inr ⟨_, rfl, fun i u hu => ?_⟩⟩
          rw [List.getElem?_map] at hu
          cases hx : xs[i]? with
          | none => rw [hx] at hu; cases hu
          | some z =>
            rw [hx] at hu
            rw [add_none, hcell i z (hsub i z hx)]
            exact hu
        split at hl
        · rename_i hb
          cases hl
          refine ⟨_, by simp; rfl, pcDen_nil ν, fun nl hn => ?_⟩
          cases hn
          have hlen : len.den ν = ((l.den ν).length : Int) := by rw [← SI.beq_eq hb, SI.mkLen_den]
          exact key _ (l.den ν).length (by rw [hlen]; simp) rfl (fun i u hu => hu)
        · cases hl
          obtain ⟨x, hx, h1, h2⟩ := ways_den (ν := ν) (cs := [SB.mkLe (.lit 0) len, SB.mkLe len (SI.mkLen l)]) (SL.mkTake l len) hd
          refine ⟨x, hx, h1, fun nl hn => ?_⟩
          obtain ⟨rfl, hc⟩ := h2 nl hn
          have c1 := hc (SB.mkLe (.lit 0) len) (by simp)
          have c2 := hc (SB.mkLe len (SI.mkLen l)) (by simp)
          rw [SB.mkLe_den] at c1
          rw [SB.mkLe_den, SI.mkLen_den] at c2
          replace c1 : (0 : Int) ≤ len.den ν := of_decide_eq_true c1
          replace c2 := of_decide_eq_true c2
          rw [SL.mkTake_den]
          exact key _ (len.den ν).toNat rfl (by simp; omega) (fun i u hu => by
            rw [List.getElem?_take] at hu
            split at hu
            · exact hu
            · cases hu)
      · cases hl
    · rename_i bk hg
      split at hl
      · rename_i j l c ty ha
        split at hl
        · rename_i hk
          have hk := kBeq_eq hk
          subst hk
          obtain ⟨rest, hr, hcap, _⟩ := asRow_den h (hget_mem hg) ha
          have key : ∀ (xs : List Int) (o n : Nat), (off.den ν).toNat = o → (len.den ν).toNat = n → xs.length = n → (∀ i u, xs[i]? = some u → (l.den ν)[o + i]? = some u) → Reads w ((SV.sl b off len cap).den ν ρ) (xs.map (Value.int j)) := by
            intro xs o n ho hn hlen hsub
            refine ⟨_, _, _, rfl, by simp [hlen, hn], .inr ⟨_, rfl, fun i u hu => ?_⟩⟩
            rw [ho, add_none, cell_at hr]
            rw [List.getElem?_map] at hu
            cases hx : xs[i]? with
            | none => rw [hx] at hu; cases hu
            | some z =>
              rw [hx] at hu
              have := hsub i z hx
              rw [List.getElem?_append_left (by simpa using (List.getElem?_eq_some_iff.1 this).1), List.getElem?_map, this]
              exact hu
          split at hl
          · split at hl
            · rename_i hb
              cases hl
              refine ⟨_, by simp; rfl, pcDen_nil ν, fun nl hn => ?_⟩
              cases hn
              have hlen : len.den ν = ((l.den ν).length : Int) := by rw [← SI.beq_eq hb, SI.mkLen_den]
              exact key _ 0 (l.den ν).length rfl (by rw [hlen]; simp) rfl (fun i u hu => by simpa using hu)
            · cases hl
              obtain ⟨x, hx, h1, h2⟩ := ways_den (ν := ν) (cs := [SB.mkLe (.lit 0) len, SB.mkLe len (SI.mkLen l)]) (SL.mkTake l len) hd
              refine ⟨x, hx, h1, fun nl hn => ?_⟩
              obtain ⟨rfl, hc⟩ := h2 nl hn
              have c1 := hc (SB.mkLe (.lit 0) len) (by simp)
              have c2 := hc (SB.mkLe len (SI.mkLen l)) (by simp)
              rw [SB.mkLe_den] at c1
              rw [SB.mkLe_den, SI.mkLen_den] at c2
              replace c1 : (0 : Int) ≤ len.den ν := of_decide_eq_true c1
              replace c2 := of_decide_eq_true c2
              rw [SL.mkTake_den]
              exact key _ 0 (len.den ν).toNat rfl rfl (by simp; omega) (fun i u hu => by
                rw [List.getElem?_take] at hu
                split at hu
                · simpa using hu
                · cases hu)
          · rename_i off0
            cases hl
            obtain ⟨x, hx, h1, h2⟩ := ways_den (ν := ν) (cs := [SB.mkLe (.lit 0) off, SB.mkLe (.lit 0) len, SB.mkLe (SI.mkAdd off len) (SI.mkLen l)]) (SL.mkTake (SL.mkDrop l off) len) hd
            refine ⟨x, hx, h1, fun nl hn => ?_⟩
            obtain ⟨rfl, hc⟩ := h2 nl hn
            have c1 := hc (SB.mkLe (.lit 0) off) (by simp)
            have c2 := hc (SB.mkLe (.lit 0) len) (by simp)
            have c3 := hc (SB.mkLe (SI.mkAdd off len) (SI.mkLen l)) (by simp)
            rw [SB.mkLe_den] at c1 c2
            rw [SB.mkLe_den, SI.mkLen_den, SI.mkAdd_den] at c3
            replace c1 : (0 : Int) ≤ off.den ν := of_decide_eq_true c1
            replace c2 : (0 : Int) ≤ len.den ν := of_decide_eq_true c2
            replace c3 := of_decide_eq_true c3
            simp only [SL.mkTake_den, SL.mkDrop_den]
            exact key _ (off.den ν).toNat (len.den ν).toNat rfl rfl (by simp; omega) (fun i u hu => by
              rw [List.getElem?_take] at hu
              split at hu
              · rw [List.getElem?_drop] at hu; exact hu
              · cases hu)
        · cases hl
      · cases hl
    · cases hl
  · cases hl

theorem herase_mem {b : Nat} {x : Nat × SBk} : x ∈ herase b hp ↔ x ∈ hp ∧ x.1 ≠ b := by
  unfold herase
  rw [List.mem_filter]
  constructor
  · rintro ⟨h1, h2⟩
    refine ⟨h1, fun e => ?_⟩
    rw [e] at h2
    simp at h2
  · rintro ⟨h1, h2⟩
    refine ⟨h1, ?_⟩
    cases hq : Nat.beq x.1 b
    · rfl
    · exact absurd (Nat.eq_of_beq_eq_true hq) h2

theorem hav_erase {lo hi b : Nat} (h : hav lo hi hp = true) : hav lo hi (herase b hp) = true := by
  induction hp with
  | nil => rfl
  | cons x r ih =>
    obtain ⟨m, c⟩ := x
    simp only [hav, Bool.and_eq_true] at h
    unfold herase at *
    rw [List.filter_cons]
    split
    · simp only [hav, Bool.and_eq_true]; exact ⟨h.1, ih h.2⟩
    · exact ih h.2
end
end Go.Sy
end
