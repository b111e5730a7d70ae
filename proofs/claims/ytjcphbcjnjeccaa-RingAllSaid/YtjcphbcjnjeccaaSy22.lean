import Derived.Test.YtjcphbcjnjeccaaSy21
import Derived.Test.YtjcphbcjnjeccaaSyG
set_option linter.unusedVariables false
set_option linter.unusedSimpArgs false
namespace Go.Sy
open Go Go.RowKit

/-- An access on a list of words. -/
def doG (k c a b : Int) (l : List Int) : Gh :=
  if k < 1 ∨ 7 < k then ⟨0, 2, false, l, []⟩
  else if c < 0 ∨ (l.length : Int) ≤ c then ⟨0, 3, false, l, []⟩
  else
    let was := l.getD c.toNat 0
    if k = 1 then ⟨was, 0, true, l, []⟩
    else if k = 2 then ⟨was, 0, true, l.set c.toNat a, []⟩
    else if k = 3 then (if was = a then ⟨was, 0, true, l.set c.toNat b, []⟩ else ⟨was, 0, false, l, []⟩)
    else if k = 4 then ⟨was, 0, true, l.set c.toNat (IntKind.u64.wrap (was + a)), []⟩
    else if k = 5 then ⟨was, 0, true, l.set c.toNat (bitsDen 1 .u64 was a), []⟩
    else if k = 6 then ⟨was, 0, true, l.set c.toNat (bitsDen 0 .u64 was a), []⟩
    else ⟨was, 0, decide (was ≠ a), l, []⟩

theorem doG_length (k c a b : Int) (l : List Int) : (doG k c a b l).l.length = l.length := by
  unfold doG
  simp only
  repeat' split
  all_goals simp

/-- An arena's cells in a memory of n zeros, as its links are laid up to i (first free: 2). -/
def aG (n at' N i : Int) : List Int := (List.range n.toNat).map fun (k : Nat) => if (k : Int) = at' then 2 else if at' + 2 ≤ (k : Int) ∧ (k : Int) < at' + i ∧ (k : Int) < at' + N then (k : Int) - at' + 1 else 0
theorem aG_length (n at' N i : Int) : (aG n at' N i).length = n.toNat := by simp [aG]
theorem aG_get (n at' N i : Int) (k : Nat) (h : k < (aG n at' N i).length) : (aG n at' N i)[k] = if (k : Int) = at' then 2 else if at' + 2 ≤ (k : Int) ∧ (k : Int) < at' + i ∧ (k : Int) < at' + N then (k : Int) - at' + 1 else 0 := by
  simp [aG]
theorem aG_set {n at' N i v : Int} (h0 : 0 ≤ at') (h1 : 1 ≤ i) (hv : v = if 2 ≤ i ∧ i < N then i + 1 else 0) : (aG n at' N i).set (at' + i).toNat v = aG n at' N (i + 1) := by
  refine List.ext_getElem (by simp [aG_length]) fun k h h' => ?_
  rw [List.getElem_set, aG_get, aG_get]
  subst hv
  by_cases e : (at' + i).toNat = k
  · rw [if_pos e]
    have e1 : (k : Int) = at' + i := by omega
    have e3 : ¬ (k : Int) = at' := by omega
    by_cases h2 : 2 ≤ i ∧ i < N
    · have h3 : at' + 2 ≤ (k : Int) ∧ (k : Int) < at' + (i + 1) ∧ (k : Int) < at' + N := by omega
      rw [if_pos h2, if_neg e3, if_pos h3]; omega
    · have h3 : ¬ (at' + 2 ≤ (k : Int) ∧ (k : Int) < at' + (i + 1) ∧ (k : Int) < at' + N) := by omega
      rw [if_neg h2, if_neg e3, if_neg h3]
  · rw [if_neg e]
    by_cases e2 : (k : Int) = at'
    · rw [if_pos e2, if_pos e2]
    · rw [if_neg e2, if_neg e2]
      by_cases h2 : at' + 2 ≤ (k : Int) ∧ (k : Int) < at' + i ∧ (k : Int) < at' + N
      · have h3 : at' + 2 ≤ (k : Int) ∧ (k : Int) < at' + (i + 1) ∧ (k : Int) < at' + N := by omega
        rw [if_pos h2, if_pos h3]
      · have h3 : ¬ (at' + 2 ≤ (k : Int) ∧ (k : Int) < at' + (i + 1) ∧ (k : Int) < at' + N) := by omega
        rw [if_neg h2, if_neg h3]
theorem aG_start {n at' N i : Int} (h0 : 0 ≤ at') (hi : i ≤ 2) : (List.replicate n.toNat (0 : Int)).set at'.toNat 2 = aG n at' N i := by
  refine List.ext_getElem (by simp [aG_length]) fun k h h' => ?_
  rw [List.getElem_set, aG_get, List.getElem_replicate]
  by_cases e : at'.toNat = k
  · rw [if_pos e, if_pos (by omega)]
  · rw [if_neg e, if_neg (by omega), if_neg (by omega)]
/-- A line's cells: a memory of n zeros where an arena lies at at' + 2, and two 1s ahead of it. -/
def qG (n at' N : Int) : List Int := ((aG n (at' + 2) N (N + 1)).set at'.toNat 1).set (at' + 1).toNat 1
theorem qG_length (n at' N : Int) : (qG n at' N).length = n.toNat := by simp [qG, aG_length]

/-- An arena's cells at at' in a memory, as its links are laid up to i, f the first free one. -/
def iG (l : List Int) (at' N f i : Int) : List Int := (List.range l.length).map fun (k : Nat) => if (k : Int) = at' then (if f ≤ N then f else 0) else if at' < (k : Int) ∧ (k : Int) < at' + i then (if f ≤ (k : Int) - at' ∧ (k : Int) - at' < N then (k : Int) - at' + 1 else 0) else l.getD k 0
theorem iG_length (l : List Int) (at' N f i : Int) : (iG l at' N f i).length = l.length := by simp [iG]
theorem iG_get (l : List Int) (at' N f i : Int) (k : Nat) (h : k < (iG l at' N f i).length) : (iG l at' N f i)[k] = if (k : Int) = at' then (if f ≤ N then f else 0) else if at' < (k : Int) ∧ (k : Int) < at' + i then (if f ≤ (k : Int) - at' ∧ (k : Int) - at' < N then (k : Int) - at' + 1 else 0) else l.getD k 0 := by
  simp [iG]
theorem iG_set {l : List Int} {at' N f i v : Int} (h0 : 0 ≤ at') (h1 : 1 ≤ i) (hv : v = if f ≤ i ∧ i < N then i + 1 else 0) : (iG l at' N f i).set (at' + i).toNat v = iG l at' N f (i + 1) := by
  refine List.ext_getElem (by simp [iG_length]) fun k h h' => ?_
  rw [List.getElem_set, iG_get, iG_get]
  subst hv
  by_cases e : (at' + i).toNat = k
  · have e1 : (k : Int) - at' = i := by omega
    have e3 : ¬ (k : Int) = at' := by omega
    have e4 : at' < (k : Int) ∧ (k : Int) < at' + (i + 1) := by omega
    rw [if_pos e, if_neg e3, if_pos e4, e1]
  · rw [if_neg e]
    by_cases e2 : (k : Int) = at'
    · rw [if_pos e2, if_pos e2]
    · rw [if_neg e2, if_neg e2]
      by_cases h2 : at' < (k : Int) ∧ (k : Int) < at' + i
      · have h3 : at' < (k : Int) ∧ (k : Int) < at' + (i + 1) := by omega
        rw [if_pos h2, if_pos h3]
      · have h3 : ¬ (at' < (k : Int) ∧ (k : Int) < at' + (i + 1)) := by omega
        rw [if_neg h2, if_neg h3]
theorem iG_start {l : List Int} {at' N f v : Int} (h0 : 0 ≤ at') (hv : v = if f ≤ N then f else 0) : l.set at'.toNat v = iG l at' N f 1 := by
  refine List.ext_getElem (by simp [iG_length]) fun k h h' => ?_
  rw [List.getElem_set, iG_get]
  subst hv
  by_cases e : at'.toNat = k
  · have e0 : (k : Int) = at' := by omega
    rw [if_pos e, if_pos e0]
  · have e2 : ¬ (k : Int) = at' := by omega
    have e3 : ¬ (at' < (k : Int) ∧ (k : Int) < at' + 1) := by omega
    rw [if_neg e, if_neg e2, if_neg e3, List.getD_eq_getElem?_getD, List.getElem?_eq_getElem (by simpa using h), Option.getD_some]

/-- n, n - 1, .., i + 1. -/
def fG (n i : Int) : List Int := (List.range (n - i).toNat).map fun (k : Nat) => n - (k : Int)
theorem fG_length (n i : Int) : (fG n i).length = (n - i).toNat := by simp [fG]
theorem fG_self (n : Int) : fG n n = [] := by simp [fG]
theorem fG_step {n i : Int} (h : i ≤ n) : fG n i ++ [i] = fG n (i - 1) := by
  unfold fG
  have e : (n - (i - 1)).toNat = (n - i).toNat + 1 := by omega
  rw [e, List.range_succ, List.map_append]
  have e2 : n - (((n - i).toNat : Nat) : Int) = i := by omega
  simp only [List.map_cons, List.map_nil, e2]

def inM : In Gh where
  gi f g a _ := match f with
    | 0 => g.u
    | 1 => g.c
    | 10 => (g.t.getD a.toNat (0, 0, 0, 0)).1
    | 11 => (g.t.getD a.toNat (0, 0, 0, 0)).2.1
    | 12 => (g.t.getD a.toNat (0, 0, 0, 0)).2.2.1
    | 13 => (g.t.getD a.toNat (0, 0, 0, 0)).2.2.2
    | _ => 0
  gb f g _ _ := g.o
  gl f g _ _ := g.l
  ga f g h a b c d l := match f with
    | 0 => doG a b c d l
    | 1 => ghL l
    | 2 => ⟨0, 0, g.l == h.l, [], []⟩
    | 20 => ghL (aG a b c d)
    | 21 => ghL (qG a b c)
    | 22 => ghL (iG l a b c d)
    | 23 => ghL (fG a b)
    | f => xga f g h a b c d l
  gv := fun _ _ _ => .bool false
  gvo := fun _ _ _ => rfl
  rep := fun _ _ _ F => ∀ k, ¬ F k
  lt := fun h k hk => absurd hk (h k)
  frame := fun h _ => h

def doX (k c a b : SI) (l : SL) : SG := .app 0 (.var 0) (.var 0) k c a b l
def eqX (l m : SL) : SB := if l.beq m then .lit true else .gb 0 (.app 2 (.app 1 (.var 0) (.var 0) (.lit 0) (.lit 0) (.lit 0) (.lit 0) l) (.app 1 (.var 0) (.var 0) (.lit 0) (.lit 0) (.lit 0) (.lit 0) m) (.lit 0) (.lit 0) (.lit 0) (.lit 0) .nil) (.lit 0) (.lit 0)

section
variable {ν : Env Gh} (hI : ν.I = inM)
include hI
theorem doX_gi0 (k c a b : SI) (l : SL) (x y : SI) : (SI.gi 0 (doX k c a b l) x y).den ν = (doG (k.den ν) (c.den ν) (a.den ν) (b.den ν) (l.den ν)).u := by simp [SI.den, doX, SG.den, hI, inM]
theorem doX_gi1 (k c a b : SI) (l : SL) (x y : SI) : (SI.gi 1 (doX k c a b l) x y).den ν = (doG (k.den ν) (c.den ν) (a.den ν) (b.den ν) (l.den ν)).c := by simp [SI.den, doX, SG.den, hI, inM]
theorem doX_gb (f : Nat) (k c a b : SI) (l : SL) (x y : SI) : (SB.gb f (doX k c a b l) x y).den ν = (doG (k.den ν) (c.den ν) (a.den ν) (b.den ν) (l.den ν)).o := by simp [SB.den, doX, SG.den, hI, inM]
theorem doX_gl (f : Nat) (k c a b : SI) (l : SL) (x y : SI) : (SL.gl f (doX k c a b l) x y).den ν = (doG (k.den ν) (c.den ν) (a.den ν) (b.den ν) (l.den ν)).l := by simp [SL.den, doX, SG.den, hI, inM]
theorem eqX_den (l m : SL) : (eqX l m).den ν = (l.den ν == m.den ν) := by
  unfold eqX
  split
  · rename_i h
    rw [SL.beq_eq h]
    simp [SB.den]
  · simp [SB.den, SG.den, hI, inM, ghL]
end

/-- A list has this length, as is seen from its form. -/
def lenIs : SI → SL → Bool
  | n, .rep m x => n.beq m || n.beq (SI.mkNat m) || n.beq (.len (.rep m x))
  | n, .set l i x => lenIs n l || n.beq (.len (.set l i x))
  | n, .gl f (.app g h h' a b c d l) x y => (Nat.beq g 0 && lenIs n l) || n.beq (.len (.gl f (.app g h h' a b c d l) x y))
  | n, l => n.beq (.len l)
theorem lenIs_den {ν : Env Gh} (hI : ν.I = inM) : ∀ {n : SI} {l : SL}, lenIs n l = true → (n.den ν).toNat = (l.den ν).length := by
  have base : ∀ {n : SI} {l : SL}, n.beq (.len l) = true → (n.den ν).toNat = (l.den ν).length := fun h => by rw [SI.beq_eq h]; simp [SI.den]
  intro n l
  induction n, l using lenIs.induct with
  | case1 n m x =>
    intro h
    simp only [lenIs, Bool.or_eq_true] at h
    rcases h with (h | h) | h
    · rw [SI.beq_eq h]; simp [SL.den]
    · rw [SI.beq_eq h]; simp only [SL.den, SI.mkNat_den, List.length_replicate]; omega
    · exact base h
  | case2 n l i x ih =>
    intro h
    simp only [lenIs, Bool.or_eq_true] at h
    rcases h with h | h
    · rw [ih h]; simp [SL.den]
    · exact base h
  | case3 n f g h' h'' a b c d l x y ih =>
    intro h
    simp only [lenIs, Bool.or_eq_true, Bool.and_eq_true] at h
    rcases h with h | h
    · have := Nat.eq_of_beq_eq_true h.1
      subst this
      rw [ih h.2]
      simp [SL.den, SG.den, hI, inM, doG_length]
    · exact base h
  | case4 n l h1 h2 h3 =>
    intro h
    unfold lenIs at h
    split at h
    · exact (h1 _ _ rfl).elim
    · exact (h2 _ _ _ rfl).elim
    · exact (h3 _ _ _ _ _ _ _ _ _ _ _ rfl).elim
    · exact base h

/-- A slice of words that can be read. -/
def Ints (w : World) (v : Value) (xs : List Int) : Prop := ∃ g o c : Nat, v = .slice (some ⟨g, o, none⟩) xs.length c ∧ g < w.heap.size ∧ xs.length ≤ 9223372036854775807 ∧ ∀ (j : Nat) (x : Int), xs[j]? = some x → w.cell? ⟨g, o + j, none⟩ = some (.int .u64 x)

/-- What a slice holds, and what is still owed (its length). -/
def intsX (hp : Heap) : SV → Option (SL × PC)
  | .sl q o n _ => match hget q hp with
    | some (.row k l _ _) => if kBeq k .u64 && o.beq (.lit 0) then some (l, if lenIs n l then [] else [(.eq (.nat n) (.len l), false)]) else none
    | _ => none
  | _ => none

theorem intsX_den {B : Base} {ν : Env Gh} {ρ : Nat → Nat} {hp : Heap} {w : World} (hI : ν.I = inM) (hw : HW B ν ρ hp w) {v : SV} {l : SL} {bs : PC} (h : intsX hp v = some (l, bs)) (hb : ∀ x ∈ bs, x.1.den ν ≠ x.2) : Ints w (v.den ν ρ) (l.den ν) := by
  unfold intsX at h
  split at h
  · rename_i q o n c
    split at h
    · rename_i k l' cp ty hg
      split at h
      · rename_i hk
        simp only [Bool.and_eq_true] at hk
        simp only [Option.some.injEq, Prod.mk.injEq] at h
        obtain ⟨rfl, rfl⟩ := h
        have e1 := kBeq_eq hk.1
        have e2 := SI.beq_eq hk.2
        subst e1 e2
        obtain ⟨rest, h1, h2, h3⟩ := hw.ints (hget_mem hg)
        have hlen : (n.den ν).toNat = (l'.den ν).length := by
          cases hl : lenIs n l' with
          | true => exact lenIs_den hI hl
          | false =>
            rw [hl] at hb
            simp only [Bool.false_eq_true, if_false, List.mem_singleton, forall_eq] at hb
            have := hb
            simp only [SB.den, SI.den, ne_eq, beq_eq_false_iff_ne, Decidable.not_not] at this
            omega
        refine ⟨ρ q, 0, (c.den ν).toNat, by simp [SV.den, SI.den, hlen], Array.getElem?_eq_some_iff.1 h1 |>.1, by omega, fun j x hx => ?_⟩
        rw [cell_at h1]
        have hj : j < (l'.den ν).length := (List.getElem?_eq_some_iff.1 hx).1
        rw [List.getElem?_append_left (by simpa using hj), List.getElem?_map, Nat.zero_add, hx]
        rfl
      · cases h
    · cases h
  · cases h

def bad1 (pc : PC) (c : SB × Bool) : CLeaf := ⟨true, .tup [], c :: pc, []⟩

/-- Are two slices' words the same? -/
def eqK (_ : Nat) (args : List SV) (pc : PC) (hp : Heap) : Option (List CLeaf) := match args with
  | [a, b] => match intsX hp a, intsX hp b with
    | some (l, bs), some (m, cs) => some (⟨false, .bool (eqX l m), pc, hp⟩ :: (bs ++ cs).map (bad1 pc))
    | _, _ => none
  | _ => none

def EqC (P : Program) (g : Nat) : Prop := ∀ (w : World) (a b : Value) (xs ys : List Int), Ints w a xs → Ints w b ys → Calls P g #[a, b] w fun e w' => e = .returned (.bool (xs == ys)) ∧ Below w.heap.size w w'

variable {P : Program} {O : Orac}

theorem bads_ok {pc : PC} {ν : Env Gh} {ρ : Nat → Nat} {B : Base} {lo sz : Nat} {R : Ending → World → Prop} {cs : List CLeaf} {bs : PC} (hpc : pcDen ν pc)
    (hc : ∀ c ∈ cs, ∀ ν' ρ' w', Agree lo (lo + sz) ν ν' ρ ρ' → pcDen ν' c.pc → c.bad = false ∧ (HW B ν' ρ' c.hp w' → R (.returned (c.v.den ν' ρ')) w')) (hm : ∀ x ∈ bs, bad1 pc x ∈ cs) : ∀ x ∈ bs, x.1.den ν ≠ x.2 := fun x hx he => by
  have := (hc _ (hm x hx) ν ρ B.w0 (Agree.refl _ _ _ _) (pcDen_one' he hpc)).1
  simp [bad1] at this

theorem eqK_ok (oo : OOK P O inM) {g : Nat} (hc : EqC P g) : OOK P (O.withCall g eqK) inM := by
  refine withCall_ok oo ?_
  intro lo args pc hp cs h sz hsz B ν ρ w R hI hpc hw hl
  unfold eqK at h
  split at h
  · rename_i a b
    split at h
    · rename_i l bs m bs' h1 h2
      cases h
      have hb := bads_ok (bs := bs ++ bs') hpc hl (fun x hx => by simp only [List.mem_cons, List.mem_map]; exact .inr ⟨x, hx, rfl⟩)
      have i1 := intsX_den hI hw h1 (fun x hx => hb x (by simp [hx]))
      have i2 := intsX_den hI hw h2 (fun x hx => hb x (by simp [hx]))
      refine pure_call' (v := .bool (eqX l m)) hpc hw hl (List.mem_cons_self ..) ?_
      have := hc w _ _ _ _ i1 i2
      simp only [SV.den, eqX_den hI]
      exact this
    · cases h
  · cases h

/-! ### an access -/
/-- One old block turned; new ones. -/
structure Turned (q : Nat) (o : Obj) (w w' : World) : Prop where
  os : w'.os = w.os
  tape : w'.tape = w.tape
  output : w'.output = w.output
  size : w.heap.size ≤ w'.heap.size
  kept : ∀ k, k < w.heap.size → k ≠ q → w'.heap[k]? = w.heap[k]?
  new : w'.heap[q]? = some o

theorem HW.turned {B : Base} {ν : Env Gh} {ρ : Nat → Nat} {hp : Heap} {w w' : World} (h : HW B ν ρ hp w) {n : Nat} {b b' : SBk} (hc : NoRes b) (hn : (n, b) ∈ hp) {o : Obj} (ht : Turned (ρ n) o w w')
    (hb : BlkDen B ν ρ w' (fun j => j = ρ n) n b') : HW B ν ρ (hset n b' hp) w' := by
  obtain ⟨F, h1, h2, h3⟩ := h.foot
  have hF := BlkDen.single hc (h1 n b hn)
  have hkk : ∀ k, ¬ B.own k → w'.heap[k]? = w.heap[k]? := fun k hk => by
    have hlt : k < w.heap.size := by
      rcases Nat.lt_or_ge k w.heap.size with hl | hl
      · exact hl
      · exact absurd (.inl (Nat.le_trans h.size hl)) hk
    exact ht.kept k hlt (fun e => hk (e ▸ h2 n b _ hn ((hF _).2 rfl)))
  refine ⟨ht.os.trans h.os, ht.tape.trans h.tape, ht.output.trans h.output, Nat.le_trans h.size ht.size, fun k hk' => (hkk k hk').trans (h.kept k hk'), by rw [hset_fst]; exact h.nd, ?_⟩
  · have key : ∀ m c, (m, c) ∈ hset n b' hp → ∃ d, (m, d) ∈ hp := fun m c hm => by
      rcases mem_hset h.nd hm with ⟨rfl, rfl⟩ | ⟨hne, hm⟩
      · exact ⟨b, hn⟩
      · exact ⟨c, hm⟩
    refine ⟨F, fun m c hm => ?_, fun m c k hm hFk => ?_, fun m c m' c' k hm hm' hk1 hk2 => ?_⟩
    · rcases mem_hset h.nd hm with ⟨rfl, rfl⟩ | ⟨hne, hm⟩
      · have : F m = fun j => j = ρ m := by funext j; exact propext (hF j)
        rw [this]; exact hb
      · exact BlkDen.world (fun k hFk => ht.kept k (BlkDen.lt (h1 m c hm) hFk) (fun e => hne (h3 m c n b k hm hn hFk ((hF k).2 e)))) (h1 m c hm)
    · obtain ⟨d, hd⟩ := key m c hm
      exact h2 m d k hd hFk
    · obtain ⟨d, hd⟩ := key m c hm
      obtain ⟨d', hd'⟩ := key m' c' hm'
      exact h3 m d m' d' k hd hd' hk1 hk2

def rowObj (l : List Int) (rest : List Value) (ty : Nat) : Obj := .cells (l.map (Value.int .u64) ++ rest).toArray ty (0, 0)

/-- A memory's access. -/
def DoC (P : Program) (g tyM tyR : Nat) : Prop := ∀ (w : World) (p q cap : Nat) (xs : List Int) (rest : List Value) (k c a b : Int), p ≠ q → w.heap[p]? = some (.cells #[.slice (some ⟨q, 0, none⟩) xs.length cap] tyM (0, 0)) → w.heap[q]? = some (rowObj xs rest tyR) → xs.length + rest.length ≤ 9223372036854775807 →
  Calls P g #[.pointer (some ⟨p, 0, none⟩), .agg #[.int .i64 k, .int .i64 c, .int .u64 a, .int .u64 b]] w fun e w' => e = .returned (.tuple #[.int .u64 (doG k c a b xs).u, .bool (doG k c a b xs).o, .int .i64 (doG k c a b xs).c]) ∧ ∃ rest' : List Value, rest'.length = rest.length ∧ Turned q (rowObj (doG k c a b xs).l rest' tyR) w w'
/-- The document's, of a slice. -/
def DoR (P : Program) (g tyR : Nat) : Prop := ∀ (w : World) (q cap : Nat) (xs : List Int) (rest : List Value) (k c a b : Int), w.heap[q]? = some (rowObj xs rest tyR) → xs.length + rest.length ≤ 9223372036854775807 →
  Calls P g #[.slice (some ⟨q, 0, none⟩) xs.length cap, .agg #[.int .i64 k, .int .i64 c, .int .u64 a, .int .u64 b]] w fun e w' => e = .returned (.tuple #[.int .u64 (doG k c a b xs).u, .bool (doG k c a b xs).o, .int .i64 (doG k c a b xs).c]) ∧ ∃ rest' : List Value, rest'.length = rest.length ∧ Turned q (rowObj (doG k c a b xs).l rest' tyR) w w'

def rowK (tyR q : Nat) (n : SI) (acc : SV) (pc : PC) (hp : Heap) : Option (List CLeaf) := match acc with
  | .agg [.int .i64 k, .int .i64 c, .int .u64 a, .int .u64 b] => match hget q hp with
    | some (.row .u64 l cp ty) => if !(Nat.beq ty tyR) then none else some (⟨false, .tup [.int .u64 (.gi 0 (doX k c a b l) (.lit 0) (.lit 0)), .bool (.gb 0 (doX k c a b l) (.lit 0) (.lit 0)), .int .i64 (.gi 1 (doX k c a b l) (.lit 0) (.lit 0))], pc, hset q (.row .u64 (.gl 0 (doX k c a b l) (.lit 0) (.lit 0)) cp ty) hp⟩ ::
        (if lenIs n l then [] else [(SB.eq (.nat n) (.len l), false)]).map (bad1 pc))
    | _ => none
  | _ => none
def doK (tyM tyR : Nat) (_ : Nat) (args : List SV) (pc : PC) (hp : Heap) : Option (List CLeaf) := match args with
  | [.ptr p o, acc] => match hget p hp with
    | some (.cells [.sl q o' n _] ty true) => if o.beq (.lit 0) && o'.beq (.lit 0) && Nat.beq ty tyM then rowK tyR q n acc pc hp else none
    | _ => none
  | _ => none
def doRK (tyR : Nat) (_ : Nat) (args : List SV) (pc : PC) (hp : Heap) : Option (List CLeaf) := match args with
  | [.sl q o' n _, acc] => if o'.beq (.lit 0) then rowK tyR q n acc pc hp else none
  | _ => none

/-- The common part: a row turned by an access. -/
theorem rowK_ok {tyR q : Nat} {n : SI} {acc : SV} {pc : PC} {hp : Heap} {cs : List CLeaf} (h : rowK tyR q n acc pc hp = some cs) {g : Nat} {first : Value} {lo sz : Nat} {B : Base} {ν : Env Gh} {ρ : Nat → Nat} {w : World} {R : Ending → World → Prop} (hI : ν.I = inM) (hpc : pcDen ν pc) (hw : HW B ν ρ hp w)
    (hl : ∀ c ∈ cs, ∀ ν' ρ' w', Agree lo (lo + sz) ν ν' ρ ρ' → pcDen ν' c.pc → c.bad = false ∧ (HW B ν' ρ' c.hp w' → R (.returned (c.v.den ν' ρ')) w'))
    (hcall : ∀ (xs : List Int) (rest : List Value) (k c a b : Int), (n.den ν).toNat = xs.length → w.heap[ρ q]? = some (rowObj xs rest tyR) → xs.length + rest.length ≤ 9223372036854775807 → Calls P g #[first, .agg #[.int .i64 k, .int .i64 c, .int .u64 a, .int .u64 b]] w fun e w' => e = .returned (.tuple #[.int .u64 (doG k c a b xs).u, .bool (doG k c a b xs).o, .int .i64 (doG k c a b xs).c]) ∧ ∃ rest' : List Value, rest'.length = rest.length ∧ Turned (ρ q) (rowObj (doG k c a b xs).l rest' tyR) w w') :
    Calls P g #[first, acc.den ν ρ] w R := by
  unfold rowK at h
  split at h
  · rename_i k c a b
    split at h
    · rename_i l cp ty hg
      split at h
      · cases h
      rename_i hty
      have hty := Nat.eq_of_beq_eq_true (by simpa using hty : Nat.beq ty tyR = true)
      subst hty
      cases h
      obtain ⟨rest, h1, h2, h3⟩ := hw.ints (hget_mem hg)
      have hb := bads_ok hpc hl (bs := if lenIs n l then [] else [(SB.eq (.nat n) (.len l), false)]) (fun x hx => List.mem_cons_of_mem _ (List.mem_map.2 ⟨x, hx, rfl⟩))
      have hlen : (n.den ν).toNat = (l.den ν).length := by
        cases hl : lenIs n l with
        | true => exact lenIs_den hI hl
        | false =>
          rw [hl] at hb
          simp only [Bool.false_eq_true, if_false, List.mem_singleton, forall_eq] at hb
          have := hb
          simp only [SB.den, SI.den, ne_eq, beq_eq_false_iff_ne, Decidable.not_not] at this
          omega
      have hcl := hcall (l.den ν) rest (k.den ν) (c.den ν) (a.den ν) (b.den ν) hlen h1 (by omega)
      have eacc : (SV.agg [.int .i64 k, .int .i64 c, .int .u64 a, .int .u64 b]).den ν ρ = .agg #[.int .i64 (k.den ν), .int .i64 (c.den ν), .int .u64 (a.den ν), .int .u64 (b.den ν)] := by simp [SV.den, denL]
      rw [eacc]
      refine hcl.mono fun e w' ⟨he, rest', hr, ht⟩ => ?_
      subst he
      have hm := hl _ (List.mem_cons_self ..) ν ρ w' (Agree.refl _ _ _ _) hpc
      have := hm.2 (hw.turned (b := .row .u64 l cp ty) trivial (hget_mem hg) ht (by
        simp only [BlkDen, doX_gl hI]
        refine ⟨⟨rest', ht.new, ?_, ?_⟩, fun _ => trivial⟩
        · rw [doG_length, hr]; exact h2
        · exact h3))
      simpa only [SV.den, denL, doX_gi0 hI, doX_gi1 hI, doX_gb hI] using this
    · cases h
  · cases h

theorem doK_ok (oo : OOK P O inM) {g tyM tyR : Nat} (hc : DoC P g tyM tyR) : OOK P (O.withCall g (doK tyM tyR)) inM := by
  refine withCall_ok oo ?_
  intro lo args pc hp cs h sz hsz B ν ρ w R hI hpc hw hl
  unfold doK at h
  split at h
  · rename_i p o acc
    split at h
    · rename_i q o' n cap ty hg
      split at h
      · rename_i hk
        simp only [Bool.and_eq_true] at hk
        have e1 := SI.beq_eq hk.1.1
        have e2 := SI.beq_eq hk.1.2
        have e3 := Nat.eq_of_beq_eq_true hk.2
        subst e1 e2 e3
        have hx : ∃ l cp ty', hget q hp = some (.row .u64 l cp ty') := by
          unfold rowK at h
          split at h
          · split at h
            · rename_i l cp ty' hq; exact ⟨l, cp, ty', hq⟩
            · cases h
          · cases h
        have hne : ρ p ≠ ρ q := fun e => by
          obtain ⟨l, cp, ty', hq⟩ := hx
          obtain ⟨F, f1, f2, f3⟩ := hw.foot
          have a1 := (BlkDen.single (b := .cells [.sl q (.lit 0) n cap] ty true) trivial (f1 _ _ (hget_mem hg)) (ρ p)).2 rfl
          have a2 := (BlkDen.single (b := .row .u64 l cp ty') trivial (f1 _ _ (hget_mem hq)) (ρ q)).2 rfl
          have := f3 _ _ _ _ _ (hget_mem hg) (hget_mem hq) a1 (e ▸ a2)
          subst this
          rw [hg] at hq
          cases hq
        have hcell := hw.row (hget_mem hg)
        have e : (denL ν ρ [SV.ptr p (.lit 0), acc]).toArray = #[.pointer (some ⟨ρ p, 0, none⟩), acc.den ν ρ] := by simp [denL, SV.den, SI.den]
        rw [e]
        refine rowK_ok h hI hpc hw hl fun xs rest k c a b hn hq hm => ?_
        obtain ⟨r, h1, h2⟩ := hcell
        rw [h2 rfl] at h1
        refine hc w (ρ p) (ρ q) (cap.den ν).toNat xs rest k c a b hne ?_ hq hm
        rw [h1, ← hn]
        simp [denL, SV.den, SI.den]
      · cases h
    · cases h
  · cases h

theorem doRK_ok (oo : OOK P O inM) {g tyR : Nat} (hc : DoR P g tyR) : OOK P (O.withCall g (doRK tyR)) inM := by
  refine withCall_ok oo ?_
  intro lo args pc hp cs h sz hsz B ν ρ w R hI hpc hw hl
  unfold doRK at h
  split at h
  · rename_i q o' n cap acc
    split at h
    · rename_i hk
      have e2 := SI.beq_eq hk
      subst e2
      have e : (denL ν ρ [SV.sl q (.lit 0) n cap, acc]).toArray = #[.slice (some ⟨ρ q, 0, none⟩) (n.den ν).toNat (cap.den ν).toNat, acc.den ν ρ] := by simp [denL, SV.den, SI.den]
      rw [e]
      refine rowK_ok h hI hpc hw hl fun xs rest k c a b hn hq hm => ?_
      rw [hn]
      exact hc w (ρ q) (cap.den ν).toNat xs rest k c a b hq hm
    · cases h
  · cases h

/-! ### contracts of calls that turn one row -/
/-- The leaves: may it be; the value; the path; the row's list. -/
def keptX (kp : Option (Nat × List SV × Nat)) (hp : Heap) : Bool := match kp with
  | none => true
  | some (n, cs, ty) => match hget n hp with
    | some b => b.beq (.cells cs ty true)
    | none => false
def rw1 (kp : Option (Nat × List SV × Nat)) (n : Nat) (cp : SI) (ty : Nat) (c : CLeaf) : Option (Bool × SV × PC × SL) :=
  if c.bad then some (true, c.v, c.pc, .nil) else match hget n c.hp with
    | some (.row .u64 l cp' ty') => if cp'.beq cp && Nat.beq ty' ty && keptX kp c.hp then some (false, c.v, c.pc, l) else none
    | _ => none
def rwL (kp : Option (Nat × List SV × Nat)) (n : Nat) (cp : SI) (ty : Nat) : List CLeaf → Option (List (Bool × SV × PC × SL))
  | [] => some []
  | c :: r => match rw1 kp n cp ty c, rwL kp n cp ty r with
    | some x, some l => some (x :: l)
    | _, _ => none
def rwOf (kp : Option (Nat × List SV × Nat)) (n : Nat) (cp : SI) (ty : Nat) (o : Option (List CLeaf)) : Option (List (Bool × SV × PC × SL)) := o.bind (rwL kp n cp ty)

theorem rwOf_mem {kp : Option (Nat × List SV × Nat)} {n : Nat} {cp : SI} {ty : Nat} : ∀ {cs : List CLeaf} {l : List (Bool × SV × PC × SL)}, rwL kp n cp ty cs = some l → ∀ c ∈ cs, ∃ s, (c.bad, c.v, c.pc, s) ∈ l ∧ (c.bad = false → hget n c.hp = some (.row .u64 s cp ty) ∧ keptX kp c.hp = true)
  | [], _, _, c, hc => by cases hc
  | d :: r, l, h, c, hc => by
    unfold rwL at h
    split at h
    · rename_i x l' hx hl
      cases h
      rcases List.mem_cons.1 hc with rfl | hc
      · unfold rw1 at hx
        split at hx
        · rename_i hb; cases hx; exact ⟨.nil, by simp [hb], fun h => by rw [hb] at h; cases h⟩
        · rename_i hb
          have hb : c.bad = false := by simpa using hb
          split at hx
          · rename_i l0 cp' ty' hg
            split at hx
            · rename_i he
              simp only [Bool.and_eq_true] at he
              cases hx
              rw [SI.beq_eq he.1.1, Nat.eq_of_beq_eq_true he.1.2] at hg
              exact ⟨l0, by simp [hb], fun _ => ⟨hg, he.2⟩⟩
            · cases hx
          · cases hx
      · obtain ⟨s, h1, h2⟩ := rwOf_mem hl c hc
        exact ⟨s, by simp [h1], h2⟩
    · cases h

/-- A base where two blocks are the walk's. -/
def base2 (w : World) (p q : Nat) : Base := ⟨w, fun k => k = p ∨ k = q⟩

theorem rw_calls {P : Program} {G : Type} {O : Orac} {I : In G} (pr : PR P) (oo : OOK P O I) {f : Nat} {args : List SV} {pc : PC} {hp : Heap} {kp : Option (Nat × List SV × Nat)} {n ty : Nat} {cp : SI} {l : List (Bool × SV × PC × SL)} (h : rwOf kp n cp ty (runX P O f args pc hp) = some l) (w : World) (p q : Nat) (ν : Env G) (ρ : Nat → Nat) (R : Ending → World → Prop) (hI : ν.I = I)
    (hpc : pcDen ν pc) (hw : HW (base2 w p q) ν ρ hp w) (hn : ∀ ρ' : Nat → Nat, (∀ m, out LO (LO + LO) m = true → ρ' m = ρ m) → ρ' n = q)
    (hc : ∀ x ∈ l, ∀ ν' ρ', Agree LO (LO + LO) ν ν' ρ ρ' → pcDen ν' x.2.2.1 → x.1 = false ∧ ∀ w' rest, w'.os = w.os → w'.tape = w.tape → w'.output = w.output → w.heap.size ≤ w'.heap.size → (∀ k, k < w.heap.size → k ≠ p → k ≠ q → w'.heap[k]? = w.heap[k]?) → (∀ m cs t, kp = some (m, cs, t) → w'.heap[ρ' m]? = some (.cells (denL ν' ρ' cs).toArray t (0, 0))) → w'.heap[q]? = some (rowObj (x.2.2.2.den ν') rest ty) → cp.den ν' = ((x.2.2.2.den ν').length + rest.length : Nat) → R (.returned (x.2.1.den ν' ρ')) w') : Calls P f (denL ν ρ args).toArray w R := by
  cases hr : runX P O f args pc hp with
  | none => rw [hr] at h; cases h
  | some cs =>
    rw [hr] at h
    have h : rwL kp n cp ty cs = some l := h
    refine runX_calls pr oo hr (base2 w p q) ν ρ w R hI hpc hw fun c hm ν' ρ' w' hag hp' => ?_
    obtain ⟨s, h1, h2⟩ := rwOf_mem h c hm
    obtain ⟨h3, h4⟩ := hc _ h1 ν' ρ' hag hp'
    refine ⟨h3, fun hw' => ?_⟩
    obtain ⟨rest, r1, r2, _⟩ := hw'.ints (hget_mem (h2 h3).1)
    have hq := hn ρ' hag.r
    rw [hq] at r1
    refine h4 w' rest hw'.os hw'.tape hw'.output hw'.size (fun k hk k1 k2 => hw'.kept k ?_) (fun m cs t hkp => ?_) r1 r2
    rotate_left
    · have hk := (h2 h3).2
      subst hkp
      simp only [keptX] at hk
      split at hk
      · rename_i b hb
        have := SBk.beq_eq hk
        subst this
        obtain ⟨r, e1, e2⟩ := hw'.row (hget_mem hb)
        rw [e2 rfl] at e1
        simpa using e1
      · cases hk
    simp only [base2, Base.own]
    intro hh
    rcases hh with hh | hh | hh
    · exact absurd hk (Nat.not_lt.2 hh)
    · exact k1 hh
    · exact k2 hh
end Go.Sy
