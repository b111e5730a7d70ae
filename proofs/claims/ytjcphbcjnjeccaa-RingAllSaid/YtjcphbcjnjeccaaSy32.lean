import Derived.Test.YtjcphbcjnjeccaaSy31
set_option linter.unusedVariables false
set_option linter.unusedSimpArgs false
namespace Go.Sy
open Go Go.RowKit

/-! ### a frame and a heap against a head's: what each of the head's names stands for -/
/-- Values of a head's names: numbers, lists, ghosts. -/
structure Vals (G : Type) where
  i : Nat → Int
  l : Nat → List Int
  g : Nat → G
/-- Is a name one of the head's? -/
def inH (nm n : Nat) : Bool := !(out nm (nm + 64) n)
def Env.at {G : Type} (ν : Env G) (nm : Nat) (x : Vals G) : Env G :=
  { ν with
    i := fun m => match inH nm m with | true => x.i (m - nm) | false => ν.i m
    l := fun m => match inH nm m with | true => x.l (m - nm) | false => ν.l m
    g := fun m => match inH nm m with | true => x.g (m - nm) | false => ν.g m }

/-- What is bound, and what is owed. -/
structure Mt where
  b : List (Nat × Nat)
  i : List (Nat × SI)
  l : List (Nat × SL)
  g : List (Nat × SG)
  qi : List (SI × SI)
  ql : List (SL × SL)
  qb : List (SB × SB)
  qg : List (SG × SG)
def Mt.none : Mt := ⟨[], [], [], [], [], [], [], []⟩
def small {α : Type} (l : List (Nat × α)) : Bool := l.all fun y => Nat.ble (y.1 + 1) 64
def lkp {α : Type} (n : Nat) : List (Nat × α) → Option α
  | [] => Option.none
  | (m, x) :: r => if Nat.beq m n then some x else lkp n r

/-- Each name once; the head's alone. -/
def Mt.fine (nm : Nat) (s : Mt) : Bool := nodupB (s.i.map (·.1)) && nodupB (s.l.map (·.1)) && nodupB (s.g.map (·.1)) && nodupB (s.b.map (·.1)) && small s.i && small s.l && small s.g && s.b.all fun y => inH nm y.1
section
variable (nm lo sz : Nat)
def okI (e : SI) : Bool := e.av nm (nm + 64) && e.av lo (lo + sz)
def okL (e : SL) : Bool := e.av nm (nm + 64) && e.av lo (lo + sz)
def okG (e : SG) : Bool := e.av nm (nm + 64) && e.av lo (lo + sz)
def okQ (e : SB) : Bool := e.av nm (nm + 64) && e.av lo (lo + sz)
/-- t: the head's, e: what is there. -/
def mI (t e : SI) (s : Mt) : Mt :=
  if e.beq t && okI nm lo sz e then s else match t with
  | .var m => match inH nm m, lkp (m - nm) s.i with
    | true, .none => { s with i := (m - nm, e) :: s.i }
    | true, some e' => if e'.beq e then s else { s with qi := (e, t) :: s.qi }
    | _, _ => { s with qi := (e, t) :: s.qi }
  | t => { s with qi := (e, t) :: s.qi }
def mL (t e : SL) (s : Mt) : Mt :=
  if e.beq t && okL nm lo sz e then s else match t with
  | .var m => match inH nm m, lkp (m - nm) s.l with
    | true, .none => { s with l := (m - nm, e) :: s.l }
    | true, some e' => if e'.beq e then s else { s with ql := (e, t) :: s.ql }
    | _, _ => { s with ql := (e, t) :: s.ql }
  | t => { s with ql := (e, t) :: s.ql }
def mB (t e : SB) (s : Mt) : Mt := if e.beq t && okQ nm lo sz e then s else { s with qb := (e, t) :: s.qb }
def mG (t e : SG) (s : Mt) : Mt :=
  if e.beq t && okG nm lo sz e then s else match t, e with
  | .var m, e => match inH nm m, lkp (m - nm) s.g with
    | true, .none => { s with g := (m - nm, e) :: s.g }
    | true, some e' => if e'.beq e then s else { s with qg := (e, t) :: s.qg }
    | _, _ => { s with qg := (e, t) :: s.qg }
  | .app f g h a b c d l, .app f' g' h' a' b' c' d' l' =>
    if Nat.beq f f' then mL nm lo sz l l' (mI nm lo sz d d' (mI nm lo sz c c' (mI nm lo sz b b' (mI nm lo sz a a' (mG h h' (mG g g' s)))))) else { s with qg := (e, t) :: s.qg }
  | t, e => { s with qg := (e, t) :: s.qg }
/-- A block's name. -/
def mN (t n : Nat) (s : Mt) : Option Mt := match inH nm t with
  | true => match lkp t s.b with
    | .none => some { s with b := (t, n) :: s.b }
    | some n' => if Nat.beq n n' then some s else .none
  | false => if Nat.beq t n && out lo (lo + sz) n then some s else .none
mutual
def mV (t v : SV) (s : Mt) : Option Mt := match t, v with
  | .int k e, .int j f => if kBeq k j then some (mI nm lo sz e f s) else .none
  | .bool e, .bool f => some (mB nm lo sz e f s)
  | .ptr b o, .ptr c p => (mN nm lo sz b c s).map (mI nm lo sz o p)
  | .nilPtr, .nilPtr | .nilFunc, .nilFunc | .nilSl, .nilSl => some s
  | .fn f a c, .fn f' a' c' => if Nat.beq f f' then match mVs a a' s with | some s => mVs c c' s | .none => .none else .none
  | .sl b o l c, .sl b' o' l' c' => (mN nm lo sz b b' s).map fun s => mI nm lo sz c c' (mI nm lo sz l l' (mI nm lo sz o o' s))
  | .osl b l c, .sl b' (.lit 0) l' c' => (mN nm lo sz b b' s).map fun s => mB nm lo sz (.lit false) (.eq l' (.lit 0)) (mI nm lo sz c c' (mI nm lo sz l l' s))
  | .osl b l c, .osl b' l' c' => (mN nm lo sz b b' s).map fun s => mI nm lo sz c c' (mI nm lo sz l l' s)
  | .osl _ l _, .nilSl => some (mI nm lo sz l (.lit 0) s)
  | .gv f g i, .gv f' g' i' => if Nat.beq f f' then some (mI nm lo sz i i' (mG nm lo sz g g' s)) else .none
  | .agg l, .agg m => mVs l m s
  | .tup l, .tup m => mVs l m s
  | .emp i, .emp j => if Nat.beq i j && out nm (nm + 64) i && out lo (lo + sz) i then some s else .none
  | .opq i, .opq j => if Nat.beq i j && out nm (nm + 64) i && out lo (lo + sz) i then some s else .none
  | _, _ => .none
def mVs (ts vs : List SV) (s : Mt) : Option Mt := match ts, vs with
  | [], [] => some s
  | t :: ts, v :: vs => match mV t v s with
    | some s => mVs ts vs s
    | .none => .none
  | _, _ => .none
end
/-- A frame: of dead slots nothing is asked; a dead slot may not stand for one that isn't. -/
def mF (ts vs : List SV) (s : Mt) : Option Mt := match ts, vs with
  | [], [] => some s
  | t :: ts, v :: vs => if t.isDead then mF ts vs s else if v.isDead then .none else match mV nm lo sz t v s with
    | some s => mF ts vs s
    | .none => .none
  | _, _ => .none
variable (P : Program)
def mBk (t b : SBk) (s : Mt) : Option Mt := match t, b with
  | .cells ts ty ex, .cells vs ty' ex' => if Nat.beq ty ty' && bBeq ex ex' then mVs nm lo sz ts vs s else .none
  | .row k l c ty, b => match asRow P b with
    | some (j, l', c', ty') => if kBeq j k && Nat.beq ty' ty then some (mI nm lo sz c c' (mL nm lo sz l l' s)) else .none
    | .none => .none
  | .res g, .res g' => some (mG nm lo sz g g' s)
  | .view k o l, .view k' o' l' => if kBeq k k' then some (mL nm lo sz l l' (mI nm lo sz o o' s)) else .none
  | .tab f g ks o n, .tab f' g' ks' o' n' => if Nat.beq f f' && ksBeq ks ks' then some (mI nm lo sz n n' (mI nm lo sz o o' (mG nm lo sz g g' s))) else .none
  | _, _ => .none
/-- Which block of what is there a head's name stands for. -/
def sigM (s : Mt) (m : Nat) : Option Nat := match inH nm m with
  | true => lkp m s.b
  | false => some m
/-- One go through what is left: the blocks whose names are known; which stands for which. -/
def mH1 (us : Heap) : Heap → List (Nat × Nat) → Mt → Option (Heap × List (Nat × Nat) × Mt)
  | [], acc, s => some ([], acc, s)
  | (m, c) :: r, acc, s => match sigM nm s m with
    | .none => match mH1 us r acc s with
      | some (q, acc, s) => some ((m, c) :: q, acc, s)
      | .none => .none
    | some n => match hget n us with
      | .none => .none
      | some b => match mBk nm lo sz P c b s with
        | .none => .none
        | some s => mH1 us r ((m, n) :: acc) s
def mHs (us : Heap) : Nat → Heap → List (Nat × Nat) → Mt → Option (List (Nat × Nat) × Mt)
  | _, [], acc, s => some (acc, s)
  | 0, _ :: _, _, _ => .none
  | n + 1, x :: r, acc, s => match mH1 nm lo sz P us (x :: r) acc s with
    | some (q, acc, s) => mHs us n q acc s
    | .none => .none
/-- All: the frame, the heap; names that stand for one block there are none. -/
def mAll (us : List SV) (hu : Heap) (ts : List SV) (ht : Heap) : Option Mt :=
  match mF nm lo sz ts us .none with
  | some s => match mHs nm lo sz P hu (ht.length + 1) ht [] s with
    | some (acc, s) => if nodupB (ht.map (·.1)) && nodupB (acc.map (·.2)) && ht.all (fun x => inH nm x.1 || out lo (lo + sz) x.1) && s.fine nm then some s else .none
    | .none => .none
  | .none => .none
end

def Mt.vals {G : Type} (s : Mt) (d : G) (ν : Env G) : Vals G :=
  ⟨fun j => match lkp j s.i with | some e => e.den ν | .none => 0, fun j => match lkp j s.l with | some e => e.den ν | .none => [], fun j => match lkp j s.g with | some e => e.den ν | .none => d⟩
/-- What is owed holds. -/
structure Mt.Owed {G : Type} (s : Mt) (ν2 ν3 : Env G) : Prop where
  qi : ∀ y ∈ s.qi, y.1.den ν2 = y.2.den ν3
  ql : ∀ y ∈ s.ql, y.1.den ν2 = y.2.den ν3
  qb : ∀ y ∈ s.qb, y.1.den ν2 = y.2.den ν3
  qg : ∀ y ∈ s.qg, y.1.den ν2 = y.2.den ν3
structure Mt.Sat {G : Type} (nm : Nat) (s : Mt) (ν2 ν3 : Env G) (ρ2 ρ3 : Nat → Nat) : Prop extends Mt.Owed s ν2 ν3 where
  b : ∀ y ∈ s.b, ρ3 y.1 = ρ2 y.2
  i : ∀ y ∈ s.i, y.2.den ν2 = ν3.i (nm + y.1)
  l : ∀ y ∈ s.l, y.2.den ν2 = ν3.l (nm + y.1)
  g : ∀ y ∈ s.g, y.2.den ν2 = ν3.g (nm + y.1)

theorem inH_eq {nm m : Nat} (h : inH nm m = true) : nm ≤ m ∧ m < nm + 64 := by
  unfold inH out at h
  simp only [Bool.not_eq_true', Bool.or_eq_false_iff] at h
  obtain ⟨h1, h2⟩ := h
  have h1 : ¬ (m + 1 ≤ nm) := fun h => by rw [Nat.ble_eq_true_of_le h] at h1; cases h1
  have h2 : ¬ (nm + 64 ≤ m) := fun h => by rw [Nat.ble_eq_true_of_le h] at h2; cases h2
  omega
theorem inH_of {nm j : Nat} (h : j < 64) : inH nm (nm + j) = true := by
  unfold inH out
  have h1 : Nat.ble (nm + j + 1) nm = false := by
    cases hb : Nat.ble (nm + j + 1) nm with
    | true => have := Nat.le_of_ble_eq_true hb; omega
    | false => rfl
  have h2 : Nat.ble (nm + 64) (nm + j) = false := by
    cases hb : Nat.ble (nm + 64) (nm + j) with
    | true => have := Nat.le_of_ble_eq_true hb; omega
    | false => rfl
  rw [h1, h2]; rfl
theorem inH_out {nm m : Nat} (h : out nm (nm + 64) m = true) : inH nm m = false := by unfold inH; rw [h]; rfl

theorem lkp_mem {α : Type} {n : Nat} {x : α} : ∀ {l : List (Nat × α)}, lkp n l = some x → (n, x) ∈ l
  | [], h => by cases h
  | (m, y) :: r, h => by
    unfold lkp at h
    split at h
    · rename_i hk
      cases h
      rw [Nat.eq_of_beq_eq_true hk]; simp
    · exact List.mem_cons_of_mem _ (lkp_mem h)
theorem lkp_of {α : Type} {n : Nat} {x : α} : ∀ {l : List (Nat × α)}, (l.map (·.1)).Nodup → (n, x) ∈ l → lkp n l = some x
  | [], _, h => by cases h
  | (m, y) :: r, hnd, h => by
    simp only [List.map_cons, List.nodup_cons] at hnd
    unfold lkp
    rcases List.mem_cons.1 h with h | h
    · cases h; rw [if_pos (Nat.beq_refl n)]
    · rw [if_neg (fun hb => hnd.1 (by rw [Nat.eq_of_beq_eq_true hb]; exact List.mem_map.2 ⟨_, h, rfl⟩)), lkp_of hnd.2 h]

section
variable {G : Type} {nm lo sz : Nat} {ν2 ν3 : Env G} {ρ2 ρ3 : Nat → Nat}

theorem mI_den (hok : ∀ e, okI nm lo sz e = true → e.den ν2 = e.den ν3) {t e : SI} {s : Mt} (h : (mI nm lo sz t e s).Sat nm ν2 ν3 ρ2 ρ3) : s.Sat nm ν2 ν3 ρ2 ρ3 ∧ e.den ν2 = t.den ν3 := by
  have push : ∀ {s : Mt}, Mt.Sat nm { s with qi := (e, t) :: s.qi } ν2 ν3 ρ2 ρ3 → s.Sat nm ν2 ν3 ρ2 ρ3 ∧ e.den ν2 = t.den ν3 := fun h => ⟨⟨⟨fun y hy => h.qi y (List.mem_cons_of_mem _ hy), h.ql, h.qb, h.qg⟩, h.b, h.i, h.l, h.g⟩, h.qi _ (List.mem_cons_self ..)⟩
  unfold mI at h
  split at h
  · rename_i hb
    simp only [Bool.and_eq_true] at hb
    obtain rfl := SI.beq_eq hb.1
    exact ⟨h, hok _ hb.2⟩
  · split at h
    · rename_i m _
      split at h
      · rename_i hm hl
        have hr := inH_eq hm
        refine ⟨⟨⟨h.qi, h.ql, h.qb, h.qg⟩, h.b, fun y hy => h.i y (List.mem_cons_of_mem _ hy), h.l, h.g⟩, ?_⟩
        have e0 := h.i (_, e) (List.mem_cons_self ..)
        simp only at e0
        rw [e0]
        show ν3.i _ = ν3.i _
        congr 1; omega
      · rename_i e' hm hl
        split at h
        · rename_i hb
          refine ⟨h, ?_⟩
          have e0 := h.i _ (lkp_mem hl)
          simp only at e0
          have hr := inH_eq hm
          obtain rfl := SI.beq_eq hb
          rw [e0]
          show ν3.i _ = ν3.i _
          congr 1; omega
        · exact push h
      · exact push h
    · exact push h

theorem mL_den (hok : ∀ e, okL nm lo sz e = true → e.den ν2 = e.den ν3) {t e : SL} {s : Mt} (h : (mL nm lo sz t e s).Sat nm ν2 ν3 ρ2 ρ3) : s.Sat nm ν2 ν3 ρ2 ρ3 ∧ e.den ν2 = t.den ν3 := by
  have push : ∀ {s : Mt}, Mt.Sat nm { s with ql := (e, t) :: s.ql } ν2 ν3 ρ2 ρ3 → s.Sat nm ν2 ν3 ρ2 ρ3 ∧ e.den ν2 = t.den ν3 := fun h => ⟨⟨⟨h.qi, fun y hy => h.ql y (List.mem_cons_of_mem _ hy), h.qb, h.qg⟩, h.b, h.i, h.l, h.g⟩, h.ql _ (List.mem_cons_self ..)⟩
  unfold mL at h
  split at h
  · rename_i hb
    simp only [Bool.and_eq_true] at hb
    obtain rfl := SL.beq_eq hb.1
    exact ⟨h, hok _ hb.2⟩
  · split at h
    · rename_i m _
      split at h
      · rename_i hm hl
        have hr := inH_eq hm
        refine ⟨⟨⟨h.qi, h.ql, h.qb, h.qg⟩, h.b, h.i, fun y hy => h.l y (List.mem_cons_of_mem _ hy), h.g⟩, ?_⟩
        have e0 := h.l (_, e) (List.mem_cons_self ..)
        simp only at e0
        rw [e0]
        show ν3.l _ = ν3.l _
        congr 1; omega
      · rename_i e' hm hl
        split at h
        · rename_i hb
          refine ⟨h, ?_⟩
          have e0 := h.l _ (lkp_mem hl)
          simp only at e0
          have hr := inH_eq hm
          obtain rfl := SL.beq_eq hb
          rw [e0]
          show ν3.l _ = ν3.l _
          congr 1; omega
        · exact push h
      · exact push h
    · exact push h

theorem mB_den (hok : ∀ e, okQ nm lo sz e = true → e.den ν2 = e.den ν3) {t e : SB} {s : Mt} (h : (mB nm lo sz t e s).Sat nm ν2 ν3 ρ2 ρ3) : s.Sat nm ν2 ν3 ρ2 ρ3 ∧ e.den ν2 = t.den ν3 := by
  unfold mB at h
  split at h
  · rename_i hb
    simp only [Bool.and_eq_true] at hb
    obtain rfl := SB.beq_eq hb.1
    exact ⟨h, hok _ hb.2⟩
  · exact ⟨⟨⟨h.qi, h.ql, fun y hy => h.qb y (List.mem_cons_of_mem _ hy), h.qg⟩, h.b, h.i, h.l, h.g⟩, h.qb _ (List.mem_cons_self ..)⟩

structure OkAll (nm lo sz : Nat) (ν2 ν3 : Env G) : Prop where
  I : ν2.I = ν3.I
  i : ∀ e, okI nm lo sz e = true → e.den ν2 = e.den ν3
  l : ∀ e, okL nm lo sz e = true → e.den ν2 = e.den ν3
  g : ∀ e, okG nm lo sz e = true → e.den ν2 = e.den ν3
  b : ∀ e, okQ nm lo sz e = true → e.den ν2 = e.den ν3
  v : ∀ n, out nm (nm + 64) n = true → out lo (lo + sz) n = true → ν2.v n = ν3.v n
  e : ∀ n, out nm (nm + 64) n = true → out lo (lo + sz) n = true → ν2.e n = ν3.e n

theorem mG_den (ok : OkAll nm lo sz ν2 ν3) : ∀ (t e : SG) {s : Mt}, (mG nm lo sz t e s).Sat nm ν2 ν3 ρ2 ρ3 → s.Sat nm ν2 ν3 ρ2 ρ3 ∧ e.den ν2 = t.den ν3
  | .var m, e, s, h => by
    have push : ∀ {t e : SG} {s : Mt}, Mt.Sat nm { s with qg := (e, t) :: s.qg } ν2 ν3 ρ2 ρ3 → s.Sat nm ν2 ν3 ρ2 ρ3 ∧ e.den ν2 = t.den ν3 := fun h =>
      ⟨⟨⟨h.qi, h.ql, h.qb, fun y hy => h.qg y (List.mem_cons_of_mem _ hy)⟩, h.b, h.i, h.l, h.g⟩, h.qg _ (List.mem_cons_self ..)⟩
    unfold mG at h
    split at h
    · rename_i hb
      simp only [Bool.and_eq_true] at hb
      obtain rfl := SG.beq_eq hb.1
      exact ⟨h, ok.g _ hb.2⟩
    · simp only at h
      split at h
      · rename_i hm hl
        have hr := inH_eq hm
        refine ⟨⟨⟨h.qi, h.ql, h.qb, h.qg⟩, h.b, h.i, h.l, fun y hy => h.g y (List.mem_cons_of_mem _ hy)⟩, ?_⟩
        have e0 := h.g (_, e) (List.mem_cons_self ..)
        simp only at e0
        rw [e0]
        show ν3.g _ = ν3.g _
        congr 1; omega
      · rename_i e' hm hl
        split at h
        · rename_i hb
          refine ⟨h, ?_⟩
          have e0 := h.g _ (lkp_mem hl)
          simp only at e0
          have hr := inH_eq hm
          obtain rfl := SG.beq_eq hb
          rw [e0]
          show ν3.g _ = ν3.g _
          congr 1; omega
        · exact push h
      · exact push h
  | .app f g k a b c d l, e, s, h => by
    have push : ∀ {t e : SG} {s : Mt}, Mt.Sat nm { s with qg := (e, t) :: s.qg } ν2 ν3 ρ2 ρ3 → s.Sat nm ν2 ν3 ρ2 ρ3 ∧ e.den ν2 = t.den ν3 := fun h =>
      ⟨⟨⟨h.qi, h.ql, h.qb, fun y hy => h.qg y (List.mem_cons_of_mem _ hy)⟩, h.b, h.i, h.l, h.g⟩, h.qg _ (List.mem_cons_self ..)⟩
    unfold mG at h
    split at h
    · rename_i hb
      simp only [Bool.and_eq_true] at hb
      obtain rfl := SG.beq_eq hb.1
      exact ⟨h, ok.g _ hb.2⟩
    · cases e with
      | var m => exact push h
      | app f' g' k' a' b' c' d' l' =>
        simp only at h
        split at h
        · rename_i hf
          have hf := Nat.eq_of_beq_eq_true hf
          obtain ⟨h, e1⟩ := mL_den ok.l h
          obtain ⟨h, e2⟩ := mI_den ok.i h
          obtain ⟨h, e3⟩ := mI_den ok.i h
          obtain ⟨h, e4⟩ := mI_den ok.i h
          obtain ⟨h, e5⟩ := mI_den ok.i h
          obtain ⟨h, e6⟩ := mG_den ok k k' h
          obtain ⟨h, e7⟩ := mG_den ok g g' h
          refine ⟨h, ?_⟩
          simp only [SG.den, ok.I, hf, e1, e2, e3, e4, e5, e6, e7]
        · exact push h

/-- names that are no head's keep their blocks. -/
def KeepR (nm lo sz : Nat) (ρ2 ρ3 : Nat → Nat) : Prop := ∀ n, out nm (nm + 64) n = true → out lo (lo + sz) n = true → ρ3 n = ρ2 n

theorem mN_den (kr : KeepR nm lo sz ρ2 ρ3) {t n : Nat} {s s' : Mt} (hm : mN nm lo sz t n s = some s') (h : s'.Sat nm ν2 ν3 ρ2 ρ3) : s.Sat nm ν2 ν3 ρ2 ρ3 ∧ ρ3 t = ρ2 n := by
  unfold mN at hm
  split at hm
  · split at hm
    · cases hm
      exact ⟨⟨⟨h.qi, h.ql, h.qb, h.qg⟩, fun y hy => h.b y (List.mem_cons_of_mem _ hy), h.i, h.l, h.g⟩, h.b _ (List.mem_cons_self ..)⟩
    · rename_i n' hl
      split at hm
      · rename_i hb
        cases hm
        refine ⟨h, ?_⟩
        rw [Nat.eq_of_beq_eq_true hb]
        exact h.b _ (lkp_mem hl)
      · cases hm
  · rename_i hH
    split at hm
    · rename_i hb
      simp only [Bool.and_eq_true] at hb
      cases hm
      have := Nat.eq_of_beq_eq_true hb.1
      subst this
      refine ⟨h, kr _ ?_ hb.2⟩
      unfold inH at hH
      simpa using hH
    · cases hm

mutual
theorem mV_den (ok : OkAll nm lo sz ν2 ν3) (kr : KeepR nm lo sz ρ2 ρ3) : ∀ {t v : SV} {s s' : Mt}, mV nm lo sz t v s = some s' → s'.Sat nm ν2 ν3 ρ2 ρ3 → s.Sat nm ν2 ν3 ρ2 ρ3 ∧ v.den ν2 ρ2 = t.den ν3 ρ3
  | t, v, s, s', hm, h => by
    unfold mV at hm
    split at hm
    · split at hm
      · rename_i hk
        cases hm
        obtain ⟨h, e1⟩ := mI_den ok.i h
        exact ⟨h, by simp only [SV.den, e1, kBeq_eq hk]⟩
      · cases hm
    · cases hm
      obtain ⟨h, e1⟩ := mB_den ok.b h
      exact ⟨h, by simp only [SV.den, e1]⟩
    · simp only [Option.map_eq_some_iff] at hm
      obtain ⟨s1, h1, rfl⟩ := hm
      obtain ⟨h, e1⟩ := mI_den ok.i h
      obtain ⟨h, e2⟩ := mN_den kr h1 h
      exact ⟨h, by simp only [SV.den, e1, e2]⟩
    · cases hm; exact ⟨h, rfl⟩
    · cases hm; exact ⟨h, rfl⟩
    · cases hm; exact ⟨h, rfl⟩
    · split at hm
      · rename_i hf
        split at hm
        · rename_i s1 h1
          obtain ⟨h, e1⟩ := mVs_den ok kr hm h
          obtain ⟨h, e2⟩ := mVs_den ok kr h1 h
          exact ⟨h, by simp only [SV.den, e1, e2, Nat.eq_of_beq_eq_true hf]⟩
        · cases hm
      · cases hm
    · simp only [Option.map_eq_some_iff] at hm
      obtain ⟨s1, h1, rfl⟩ := hm
      obtain ⟨h, e1⟩ := mI_den ok.i h
      obtain ⟨h, e2⟩ := mI_den ok.i h
      obtain ⟨h, e3⟩ := mI_den ok.i h
      obtain ⟨h, e4⟩ := mN_den kr h1 h
      exact ⟨h, by simp only [SV.den, e1, e2, e3, e4]⟩
    · simp only [Option.map_eq_some_iff] at hm
      obtain ⟨s1, h1, rfl⟩ := hm
      obtain ⟨h, e0⟩ := mB_den ok.b h
      obtain ⟨h, e1⟩ := mI_den ok.i h
      obtain ⟨h, e2⟩ := mI_den ok.i h
      obtain ⟨h, e4⟩ := mN_den kr h1 h
      refine ⟨h, ?_⟩
      simp only [SB.den, SI.den, beq_eq_false_iff_ne, ne_eq] at e0
      simp only [SV.den, SI.den, ← e1, ← e2, e4, if_neg e0]
      rfl
    · simp only [Option.map_eq_some_iff] at hm
      obtain ⟨s1, h1, rfl⟩ := hm
      obtain ⟨h, e1⟩ := mI_den ok.i h
      obtain ⟨h, e2⟩ := mI_den ok.i h
      obtain ⟨h, e4⟩ := mN_den kr h1 h
      exact ⟨h, by simp only [SV.den, e1, e2, e4]⟩
    · cases hm
      obtain ⟨h, e1⟩ := mI_den ok.i h
      refine ⟨h, ?_⟩
      simp only [SI.den] at e1
      simp only [SV.den, ← e1, if_true]
    · split at hm
      · rename_i hf
        cases hm
        obtain ⟨h, e1⟩ := mI_den ok.i h
        obtain ⟨h, e2⟩ := mG_den ok _ _ h
        exact ⟨h, by simp only [SV.den, e1, e2, ok.I, Nat.eq_of_beq_eq_true hf]⟩
      · cases hm
    · obtain ⟨h, e1⟩ := mVs_den ok kr hm h
      exact ⟨h, by simp only [SV.den, e1]⟩
    · obtain ⟨h, e1⟩ := mVs_den ok kr hm h
      exact ⟨h, by simp only [SV.den, e1]⟩
    · split at hm
      · rename_i hb
        simp only [Bool.and_eq_true] at hb
        cases hm
        have := Nat.eq_of_beq_eq_true hb.1.1
        subst this
        exact ⟨h, by simp only [SV.den]; rw [ok.e _ hb.1.2 hb.2]⟩
      · cases hm
    · split at hm
      · rename_i hb
        simp only [Bool.and_eq_true] at hb
        cases hm
        have := Nat.eq_of_beq_eq_true hb.1.1
        subst this
        exact ⟨h, by simp only [SV.den]; rw [ok.v _ hb.1.2 hb.2]⟩
      · cases hm
    · cases hm
theorem mVs_den (ok : OkAll nm lo sz ν2 ν3) (kr : KeepR nm lo sz ρ2 ρ3) : ∀ {ts vs : List SV} {s s' : Mt}, mVs nm lo sz ts vs s = some s' → s'.Sat nm ν2 ν3 ρ2 ρ3 → s.Sat nm ν2 ν3 ρ2 ρ3 ∧ denL ν2 ρ2 vs = denL ν3 ρ3 ts
  | ts, vs, s, s', hm, h => by
    unfold mVs at hm
    split at hm
    · cases hm; exact ⟨h, rfl⟩
    · rename_i t ts v vs
      split at hm
      · rename_i s1 h1
        obtain ⟨h, e1⟩ := mVs_den ok kr hm h
        obtain ⟨h, e2⟩ := mV_den ok kr h1 h
        exact ⟨h, by simp only [denL, e1, e2]⟩
      · cases hm
    · cases hm
end
end
end Go.Sy
