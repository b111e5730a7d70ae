/- Texts of one library, in one file. -/
import Derived.Test.YtiofchhmdkhfoaaGreatSyXE
set_option linter.unusedVariables false
set_option linter.unusedSimpArgs false

section
namespace Go.Sy
open Go Go.RowKit

/-! ### a frame and a heap against a head's: what each of the head's names stands for -/
/-- Values of a head's names: numbers, lists, ghosts. -/
structure Vals (G : Type) where
  i : Nat → Int
  l : Nat → List Int
  g : Nat → G
/-- Is a name one of the head's? -/
def inH (nm n : Nat) : Bool := !(out nm (nm + 64) n)
def Env.at {G : Type} (ν : Env G) (nm : Nat) (x : Vals G) : Env G :=
  { ν with
    i := fun m => match inH nm m with | true => x.i (m - nm) | false => ν.i m
    l := fun m => match inH nm m with | true => x.l (m - nm) | false => ν.l m
    g := fun m => match inH nm m with | true => x.g (m - nm) | false => ν.g m }

/-- What is bound, and what is owed. -/
structure Mt where
  b : List (Nat × Nat)
  i : List (Nat × SI)
  l : List (Nat × SL)
  g : List (Nat × SG)
  qi : List (SI × SI)
  ql : List (SL × SL)
  qb : List (SB × SB)
  qg : List (SG × SG)
def Mt.none : Mt := ⟨[], [], [], [], [], [], [], []⟩
def small {α : Type} (l : List (Nat × α)) : Bool := l.all fun y => Nat.ble (y.1 + 1) 64
def lkp {α : Type} (n : Nat) : List (Nat × α) → Option α
  | [] => Option.none
  | (m, x) :: r => if Nat.beq m n then some x else lkp n r

/-- Each name once; the head's alone. -/
def Mt.fine (nm : Nat) (s : Mt) : Bool := nodupB (s.i.map (·.1)) && nodupB (s.l.map (·.1)) && nodupB (s.g.map (·.1)) && nodupB (s.b.map (·.1)) && small s.i && small s.l && small s.g && s.b.all fun y => inH nm y.1
section
variable (nm lo sz : Nat)
def okI (e : SI) : Bool := e.av nm (nm + 64) && e.av lo (lo + sz)
def okL (e : SL) : Bool := e.av nm (nm + 64) && e.av lo (lo + sz)
def okG (e : SG) : Bool := e.av nm (nm + 64) && e.av lo (lo + sz)
def okQ (e : SB) : Bool := e.av nm (nm + 64) && e.av lo (lo + sz)
/-- t: the head's, e: what is there. -/
def mI (t e : SI) (s : Mt) : Mt :=
  if e.beq t && okI nm lo sz e then s else match t with
  | .var m => match inH nm m, lkp (m - nm) s.i with
    | true, .none => { s with i := (m - nm, e) :: s.i }
    | true, some e' => if e'.beq e then s else { s with qi := (e, t) :: s.qi }
    | _, _ => { s with qi := (e, t) :: s.qi }
  | t => { s with qi := (e, t) :: s.qi }
def mL (t e : SL) (s : Mt) : Mt :=
  if e.beq t && okL nm lo sz e then s else match t with
  | .var m => match inH nm m, lkp (m - nm) s.l with
    | true, .none => { s with l := (m - nm, e) :: s.l }
    | true, some e' => if e'.beq e then s else { s with ql := (e, t) :: s.ql }
    | _, _ => { s with ql := (e, t) :: s.ql }
  | t => { s with ql := (e, t) :: s.ql }
def mB (t e : SB) (s : Mt) : Mt := if e.beq t && okQ nm lo sz e then s else { s with qb := (e, t) :: s.qb }
def mG (t e : SG) (s : Mt) : Mt :=
  if e.beq t && okG nm lo sz e then s else match t, e with
  | .var m, e => match inH nm m, lkp (m - nm) s.g with
    | true, .none => { s with g := (m - nm, e) :: s.g }
    | true, some e' => if e'.beq e then s else { s with qg := (e, t) :: s.qg }
    | _, _ => { s with qg := (e, t) :: s.qg }
  | .app f g h a b c d l, .app f' g' h' a' b' c' d' l' =>
    if Nat.beq f f' then mL nm lo sz l l' (mI nm lo sz d d' (mI nm lo sz c c' (mI nm lo sz b b' (mI nm lo sz a a' (mG h h' (mG g g' s)))))) else { s with qg := (e, t) :: s.qg }
  | t, e => { s with qg := (e, t) :: s.qg }
def is22 : SG → Bool
  | .app f _ _ _ _ _ _ _ => Nat.beq f 22
  | _ => false
/-- a row's list: an arena's cells by their parts -/
def mLg (t e : SL) (s : Mt) : Mt := match t, e with
  | .gl f g a b, .gl f' g' a' b' => if is22 g && Nat.beq f f' then mI nm lo sz b b' (mI nm lo sz a a' (mG nm lo sz g g' s)) else mL nm lo sz (.gl f g a b) (.gl f' g' a' b') s
  | t, e => mL nm lo sz t e s
/-- A block's name. -/
def mN (t n : Nat) (s : Mt) : Option Mt := match inH nm t with
  | true => match lkp t s.b with
    | .none => some { s with b := (t, n) :: s.b }
    | some n' => if Nat.beq n n' then some s else .none
  | false => if Nat.beq t n && out lo (lo + sz) n then some s else .none
mutual
def mV (t v : SV) (s : Mt) : Option Mt := match t, v with
  | .int k e, .int j f => if kBeq k j then some (mI nm lo sz e f s) else .none
  | .bool e, .bool f => some (mB nm lo sz e f s)
  | .ptr b o, .ptr c p => (mN nm lo sz b c s).map (mI nm lo sz o p)
  | .nilPtr, .nilPtr | .nilFunc, .nilFunc | .nilSl, .nilSl => some s
  | .fn f a c, .fn f' a' c' => if Nat.beq f f' then match mVs a a' s with | some s => mVs c c' s | .none => .none else .none
  | .sl b o l c, .sl b' o' l' c' => (mN nm lo sz b b' s).map fun s => mI nm lo sz c c' (mI nm lo sz l l' (mI nm lo sz o o' s))
  | .osl b l c, .sl b' (.lit 0) l' c' => (mN nm lo sz b b' s).map fun s => mB nm lo sz (.lit false) (.eq l' (.lit 0)) (mI nm lo sz c c' (mI nm lo sz l l' s))
  | .osl b l c, .osl b' l' c' => (mN nm lo sz b b' s).map fun s => mI nm lo sz c c' (mI nm lo sz l l' s)
  | .osl _ l _, .nilSl => some (mI nm lo sz l (.lit 0) s)
  | .gv f g i, .gv f' g' i' => if Nat.beq f f' then some (mI nm lo sz i i' (mG nm lo sz g g' s)) else .none
  | .agg l, .agg m => mVs l m s
  | .ifc t v, .ifc t' v' => if Nat.beq t t' then mV v v' s else .none
  | .nilIf, .nilIf => some s
  | .tup l, .tup m => mVs l m s
  | .emp i, .emp j => if Nat.beq i j && out nm (nm + 64) i && out lo (lo + sz) i then some s else .none
  | .opq i, .opq j => if Nat.beq i j && out nm (nm + 64) i && out lo (lo + sz) i then some s else .none
  | _, _ => .none
def mVs (ts vs : List SV) (s : Mt) : Option Mt := match ts, vs with
  | [], [] => some s
  | t :: ts, v :: vs => match mV t v s with
    | some s => mVs ts vs s
    | .none => .none
  | _, _ => .none
end
/-- A frame: of dead slots nothing is asked; a dead slot may not stand for one that isn't. -/
def mF (ts vs : List SV) (s : Mt) : Option Mt := match ts, vs with
  | [], [] => some s
  | t :: ts, v :: vs => if t.isDead then mF ts vs s else if v.isDead then .none else match mV nm lo sz t v s with
    | some s => mF ts vs s
    | .none => .none
  | _, _ => .none
variable (P : Program)
def mBk (t b : SBk) (s : Mt) : Option Mt := match t, b with
  | .cells ts ty ex, .cells vs ty' ex' => if Nat.beq ty ty' && bBeq ex ex' then mVs nm lo sz ts vs s else .none
  | .row k l c ty, b => match asRow P b with
    | some (j, l', c', ty') => if kBeq j k && Nat.beq ty' ty then some (mI nm lo sz c c' (mLg nm lo sz l l' s)) else .none
    | .none => .none
  | .res g, .res g' => some (mG nm lo sz g g' s)
  | .view k o l, .view k' o' l' => if kBeq k k' then some (mL nm lo sz l l' (mI nm lo sz o o' s)) else .none
  | .tab f g ks o n, .tab f' g' ks' o' n' => if Nat.beq f f' && ksBeq ks ks' then some (mI nm lo sz n n' (mI nm lo sz o o' (mG nm lo sz g g' s))) else .none
  | _, _ => .none
/-- Which block of what is there a head's name stands for. -/
def sigM (s : Mt) (m : Nat) : Option Nat := match inH nm m with
  | true => lkp m s.b
  | false => some m
/-- One go through what is left: the blocks whose names are known; which stands for which. -/
def mH1 (us : Heap) : Heap → List (Nat × Nat) → Mt → Option (Heap × List (Nat × Nat) × Mt)
  | [], acc, s => some ([], acc, s)
  | (m, c) :: r, acc, s => match sigM nm s m with
    | .none => match mH1 us r acc s with
      | some (q, acc, s) => some ((m, c) :: q, acc, s)
      | .none => .none
    | some n => match hget n us with
      | .none => .none
      | some b => match mBk nm lo sz P c b s with
        | .none => .none
        | some s => mH1 us r ((m, n) :: acc) s
def mHs (us : Heap) : Nat → Heap → List (Nat × Nat) → Mt → Option (List (Nat × Nat) × Mt)
  | _, [], acc, s => some (acc, s)
  | 0, _ :: _, _, _ => .none
  | n + 1, x :: r, acc, s => match mH1 nm lo sz P us (x :: r) acc s with
    | some (q, acc, s) => mHs us n q acc s
    | .none => .none
/-- All: the frame, the heap; names that stand for one block there are none. -/
def mAll (us : List SV) (hu : Heap) (ts : List SV) (ht : Heap) : Option Mt :=
  match mF nm lo sz ts us .none with
  | some s => match mHs nm lo sz P hu (ht.length + 1) ht [] s with
    | some (acc, s) => if nodupB (ht.map (·.1)) && nodupB (acc.map (·.2)) && ht.all (fun x => inH nm x.1 || out lo (lo + sz) x.1) && s.fine nm then some s else .none
    | .none => .none
  | .none => .none
end

def Mt.vals {G : Type} (s : Mt) (d : G) (ν : Env G) : Vals G :=
  ⟨fun j => match lkp j s.i with | some e => e.den ν | .none => 0, fun j => match lkp j s.l with | some e => e.den ν | .none => [], fun j => match lkp j s.g with | some e => e.den ν | .none => d⟩
/-- What is owed holds. -/
structure Mt.Owed {G : Type} (s : Mt) (ν2 ν3 : Env G) : Prop where
  qi : ∀ y ∈ s.qi, y.1.den ν2 = y.2.den ν3
  ql : ∀ y ∈ s.ql, y.1.den ν2 = y.2.den ν3
  qb : ∀ y ∈ s.qb, y.1.den ν2 = y.2.den ν3
  qg : ∀ y ∈ s.qg, y.1.den ν2 = y.2.den ν3
structure Mt.Sat {G : Type} (nm : Nat) (s : Mt) (ν2 ν3 : Env G) (ρ2 ρ3 : Nat → Nat) : Prop extends Mt.Owed s ν2 ν3 where
  b : ∀ y ∈ s.b, ρ3 y.1 = ρ2 y.2
  i : ∀ y ∈ s.i, y.2.den ν2 = ν3.i (nm + y.1)
  l : ∀ y ∈ s.l, y.2.den ν2 = ν3.l (nm + y.1)
  g : ∀ y ∈ s.g, y.2.den ν2 = ν3.g (nm + y.1)

theorem inH_eq {nm m : Nat} (h : inH nm m = true) : nm ≤ m ∧ m < nm + 64 := by
  unfold inH out at h
  simp only [Bool.not_eq_true', Bool.or_eq_false_iff] at h
  obtain ⟨h1, h2⟩ := h
  have h1 : ¬ (m + 1 ≤ nm) := fun h => by rw [Nat.ble_eq_true_of_le h] at h1; cases h1
  have h2 : ¬ (nm + 64 ≤ m) := fun h => by rw [Nat.ble_eq_true_of_le h] at h2; cases h2
  omega
theorem inH_of {nm j : Nat} (h : j < 64) : inH nm (nm + j) = true := by
  unfold inH out
  have h1 : Nat.ble (nm + j + 1) nm = false := by
    cases hb : Nat.ble (nm + j + 1) nm with
    | true => have := Nat.le_of_ble_eq_true hb; omega
    | false => rfl
  have h2 : Nat.ble (nm + 64) (nm + j) = false := by
    cases hb : Nat.ble (nm + 64) (nm + j) with
    | true => have := Nat.le_of_ble_eq_true hb; omega
    | false => rfl
  rw [h1, h2]; rfl
theorem inH_out {nm m : Nat} (h : out nm (nm + 64) m = true) : inH nm m = false := by unfold inH; rw [h]; rfl

theorem lkp_mem {α : Type} {n : Nat} {x : α} : ∀ {l : List (Nat × α)}, lkp n l = some x → (n, x) ∈ l
  | [], h => by cases h
  | (m, y) :: r, h => by
    unfold lkp at h
    split at h
    · rename_i hk
      cases h
      rw [Nat.eq_of_beq_eq_true hk]; simp
    · exact List.mem_cons_of_mem _ (lkp_mem h)
theorem lkp_of {α : Type} {n : Nat} {x : α} : ∀ {l : List (Nat × α)}, (l.map (·.1)).Nodup → (n, x) ∈ l → lkp n l = some x
  | [], _, h => by cases h
  | (m, y) :: r, hnd, h => by
    simp only [List.map_cons, List.nodup_cons] at hnd
    unfold lkp
    rcases List.mem_cons.1 h with h | h
    · cases h; rw [if_pos (Nat.beq_refl n)]
    · rw [if_neg (fun hb => hnd.1 (by rw [Nat.eq_of_beq_eq_true hb]; exact List.mem_map.2 ⟨_, h, rfl⟩)), lkp_of hnd.2 h]

section
variable {G : Type} {nm lo sz : Nat} {ν2 ν3 : Env G} {ρ2 ρ3 : Nat → Nat}

theorem mI_den (hok : ∀ e, okI nm lo sz e = true → e.den ν2 = e.den ν3) {t e : SI} {s : Mt} (h : (mI nm lo sz t e s).Sat nm ν2 ν3 ρ2 ρ3) : s.Sat nm ν2 ν3 ρ2 ρ3 ∧ e.den ν2 = t.den ν3 := by
  have push : ∀ {s : Mt}, Mt.Sat nm { s with qi := (e, t) :: s.qi } ν2 ν3 ρ2 ρ3 → s.Sat nm ν2 ν3 ρ2 ρ3 ∧ e.den ν2 = t.den ν3 := fun h => ⟨⟨⟨fun y hy => h.qi y (List.mem_cons_of_mem _ hy), h.ql, h.qb, h.qg⟩, h.b, h.i, h.l, h.g⟩, h.qi _ (List.mem_cons_self ..)⟩
  unfold mI at h
  split at h
  · rename_i hb
    simp only [Bool.and_eq_true] at hb
    obtain rfl := SI.beq_eq hb.1
    exact ⟨h, hok _ hb.2⟩
  · split at h
    · rename_i m _
      split at h
      · rename_i hm hl
        have hr := inH_eq hm
        refine ⟨⟨⟨h.qi, h.ql, h.qb, h.qg⟩, h.b, fun y hy => h.i y (List.mem_cons_of_mem _ hy), h.l, h.g⟩, ?_⟩
        have e0 := h.i (_, e) (List.mem_cons_self ..)
        simp only at e0
        rw [e0]
        show ν3.i _ = ν3.i _
        congr 1; omega
      · rename_i e' hm hl
        split at h
        · rename_i hb
          refine ⟨h, ?_⟩
          have e0 := h.i _ (lkp_mem hl)
          simp only at e0
          have hr := inH_eq hm
          obtain rfl := SI.beq_eq hb
          rw [e0]
          show ν3.i _ = ν3.i _
          congr 1; omega
        · exact push h
      · exact push h
    · exact push h

theorem mL_den (hok : ∀ e, okL nm lo sz e = true → e.den ν2 = e.den ν3) {t e : SL} {s : Mt} (h : (mL nm lo sz t e s).Sat nm ν2 ν3 ρ2 ρ3) : s.Sat nm ν2 ν3 ρ2 ρ3 ∧ e.den ν2 = t.den ν3 := by
  have push : ∀ {s : Mt}, Mt.Sat nm { s with ql := (e, t) :: s.ql } ν2 ν3 ρ2 ρ3 → s.Sat nm ν2 ν3 ρ2 ρ3 ∧ e.den ν2 = t.den ν3 := fun h => ⟨⟨⟨h.qi, fun y hy => h.ql y (List.mem_cons_of_mem _ hy), h.qb, h.qg⟩, h.b, h.i, h.l, h.g⟩, h.ql _ (List.mem_cons_self ..)⟩
  unfold mL at h
  split at h
  · rename_i hb
    simp only [Bool.and_eq_true] at hb
    obtain rfl := SL.beq_eq hb.1
    exact ⟨h, hok _ hb.2⟩
  · split at h
    · rename_i m _
      split at h
      · rename_i hm hl
        have hr := inH_eq hm
        refine ⟨⟨⟨h.qi, h.ql, h.qb, h.qg⟩, h.b, h.i, fun y hy => h.l y (List.mem_cons_of_mem _ hy), h.g⟩, ?_⟩
        have e0 := h.l (_, e) (List.mem_cons_self ..)
        simp only at e0
        rw [e0]
        show ν3.l _ = ν3.l _
        congr 1; omega
      · rename_i e' hm hl
        split at h
        · rename_i hb
          refine ⟨h, ?_⟩
          have e0 := h.l _ (lkp_mem hl)
          simp only at e0
          have hr := inH_eq hm
          obtain rfl := SL.beq_eq hb
          rw [e0]
          show ν3.l _ = ν3.l _
          congr 1; omega
        · exact push h
      · exact push h
    · exact push h

theorem mB_den (hok : ∀ e, okQ nm lo sz e = true → e.den ν2 = e.den ν3) {t e : SB} {s : Mt} (h : (mB nm lo sz t e s).Sat nm ν2 ν3 ρ2 ρ3) : s.Sat nm ν2 ν3 ρ2 ρ3 ∧ e.den ν2 = t.den ν3 := by
  unfold mB at h
  split at h
  · rename_i hb
    simp only [Bool.and_eq_true] at hb
    obtain rfl := SB.beq_eq hb.1
    exact ⟨h, hok _ hb.2⟩
  · exact ⟨⟨⟨h.qi, h.ql, fun y hy => h.qb y (List.mem_cons_of_mem _ hy), h.qg⟩, h.b, h.i, h.l, h.g⟩, h.qb _ (List.mem_cons_self ..)⟩

structure OkAll (nm lo sz : Nat) (ν2 ν3 : Env G) : Prop where
  I : ν2.I = ν3.I
  i : ∀ e, okI nm lo sz e = true → e.den ν2 = e.den ν3
  l : ∀ e, okL nm lo sz e = true → e.den ν2 = e.den ν3
  g : ∀ e, okG nm lo sz e = true → e.den ν2 = e.den ν3
  b : ∀ e, okQ nm lo sz e = true → e.den ν2 = e.den ν3
  v : ∀ n, out nm (nm + 64) n = true → out lo (lo + sz) n = true → ν2.v n = ν3.v n
  e : ∀ n, out nm (nm + 64) n = true → out lo (lo + sz) n = true → ν2.e n = ν3.e n

theorem mG_den (ok : OkAll nm lo sz ν2 ν3) : ∀ (t e : SG) {s : Mt}, (mG nm lo sz t e s).Sat nm ν2 ν3 ρ2 ρ3 → s.Sat nm ν2 ν3 ρ2 ρ3 ∧ e.den ν2 = t.den ν3
  | .var m, e, s, h => by
    have push : ∀ {t e : SG} {s : Mt}, Mt.Sat nm { s with qg := (e, t) :: s.qg } ν2 ν3 ρ2 ρ3 → s.Sat nm ν2 ν3 ρ2 ρ3 ∧ e.den ν2 = t.den ν3 := fun h =>
      ⟨⟨⟨h.qi, h.ql, h.qb, fun y hy => h.qg y (List.mem_cons_of_mem _ hy)⟩, h.b, h.i, h.l, h.g⟩, h.qg _ (List.mem_cons_self ..)⟩
    unfold mG at h
    split at h
    · rename_i hb
      simp only [Bool.and_eq_true] at hb
      obtain rfl := SG.beq_eq hb.1
      exact ⟨h, ok.g _ hb.2⟩
    · simp only at h
      split at h
      · rename_i hm hl
        have hr := inH_eq hm
        refine ⟨⟨⟨h.qi, h.ql, h.qb, h.qg⟩, h.b, h.i, h.l, fun y hy => h.g y (List.mem_cons_of_mem _ hy)⟩, ?_⟩
        have e0 := h.g (_, e) (List.mem_cons_self ..)
        simp only at e0
        rw [e0]
        show ν3.g _ = ν3.g _
        congr 1; omega
      · rename_i e' hm hl
        split at h
        · rename_i hb
          refine ⟨h, ?_⟩
          have e0 := h.g _ (lkp_mem hl)
          simp only at e0
          have hr := inH_eq hm
          obtain rfl := SG.beq_eq hb
          rw [e0]
          show ν3.g _ = ν3.g _
          congr 1; omega
        · exact push h
      · exact push h
  | .app f g k a b c d l, e, s, h => by
    have push : ∀ {t e : SG} {s : Mt}, Mt.Sat nm { s with qg := (e, t) :: s.qg } ν2 ν3 ρ2 ρ3 → s.Sat nm ν2 ν3 ρ2 ρ3 ∧ e.den ν2 = t.den ν3 := fun h =>
      ⟨⟨⟨h.qi, h.ql, h.qb, fun y hy => h.qg y (List.mem_cons_of_mem _ hy)⟩, h.b, h.i, h.l, h.g⟩, h.qg _ (List.mem_cons_self ..)⟩
    unfold mG at h
    split at h
    · rename_i hb
      simp only [Bool.and_eq_true] at hb
      obtain rfl := SG.beq_eq hb.1
      exact ⟨h, ok.g _ hb.2⟩
    · cases e with
      | var m => exact push h
      | app f' g' k' a' b' c' d' l' =>
        simp only at h
        split at h
        · rename_i hf
          have hf := Nat.eq_of_beq_eq_true hf
          obtain ⟨h, e1⟩ := mL_den ok.l h
          obtain ⟨h, e2⟩ := mI_den ok.i h
          obtain ⟨h, e3⟩ := mI_den ok.i h
          obtain ⟨h, e4⟩ := mI_den ok.i h
          obtain ⟨h, e5⟩ := mI_den ok.i h
          obtain ⟨h, e6⟩ := mG_den ok k k' h
          obtain ⟨h, e7⟩ := mG_den ok g g' h
          refine ⟨h, ?_⟩
          simp only [SG.den, ok.I, hf, e1, e2, e3, e4, e5, e6, e7]
        · exact push h

theorem mLg_den (ok : OkAll nm lo sz ν2 ν3) {t e : SL} {s : Mt} (h : (mLg nm lo sz t e s).Sat nm ν2 ν3 ρ2 ρ3) : s.Sat nm ν2 ν3 ρ2 ρ3 ∧ e.den ν2 = t.den ν3 := by
  unfold mLg at h
  split at h
  · rename_i f g a b f' g' a' b'
    split at h
    · rename_i hc
      simp only [Bool.and_eq_true] at hc
      have hf := Nat.eq_of_beq_eq_true hc.2
      subst hf
      obtain ⟨h, d1⟩ := mI_den ok.i h
      obtain ⟨h, d2⟩ := mI_den ok.i h
      obtain ⟨h, d3⟩ := mG_den ok _ _ h
      refine ⟨h, ?_⟩
      simp only [SL.den, d1, d2, d3, ok.I]
    · exact mL_den ok.l h
  · exact mL_den ok.l h

/-- names that are no head's keep their blocks. -/
def KeepR (nm lo sz : Nat) (ρ2 ρ3 : Nat → Nat) : Prop := ∀ n, out nm (nm + 64) n = true → out lo (lo + sz) n = true → ρ3 n = ρ2 n

theorem mN_den (kr : KeepR nm lo sz ρ2 ρ3) {t n : Nat} {s s' : Mt} (hm : mN nm lo sz t n s = some s') (h : s'.Sat nm ν2 ν3 ρ2 ρ3) : s.Sat nm ν2 ν3 ρ2 ρ3 ∧ ρ3 t = ρ2 n := by
  unfold mN at hm
  split at hm
  · split at hm
    · cases hm
      exact ⟨⟨⟨h.qi, h.ql, h.qb, h.qg⟩, fun y hy => h.b y (List.mem_cons_of_mem _ hy), h.i, h.l, h.g⟩, h.b _ (List.mem_cons_self ..)⟩
    · rename_i n' hl
      split at hm
      · rename_i hb
        cases hm
        refine ⟨h, ?_⟩
        rw [Nat.eq_of_beq_eq_true hb]
        exact h.b _ (lkp_mem hl)
      · cases hm
  · rename_i hH
    split at hm
    · rename_i hb
      simp only [Bool.and_eq_true] at hb
      cases hm
      have := Nat.eq_of_beq_eq_true hb.1
      subst this
      refine ⟨h, kr _ ?_ hb.2⟩
      unfold inH at hH
      simpa using hH
    · cases hm

mutual
theorem mV_den (ok : OkAll nm lo sz ν2 ν3) (kr : KeepR nm lo sz ρ2 ρ3) : ∀ {t v : SV} {s s' : Mt}, mV nm lo sz t v s = some s' → s'.Sat nm ν2 ν3 ρ2 ρ3 → s.Sat nm ν2 ν3 ρ2 ρ3 ∧ v.den ν2 ρ2 = t.den ν3 ρ3
  | t, v, s, s', hm, h => by
    unfold mV at hm
    split at hm
    · split at hm
      · rename_i hk
        cases hm
        obtain ⟨h, e1⟩ := mI_den ok.i h
        exact ⟨h, by simp only [SV.den, e1, kBeq_eq hk]⟩
      · cases hm
    · cases hm
      obtain ⟨h, e1⟩ := mB_den ok.b h
      exact ⟨h, by simp only [SV.den, e1]⟩
    · simp only [Option.map_eq_some_iff] at hm
      obtain ⟨s1, h1, rfl⟩ := hm
      obtain ⟨h, e1⟩ := mI_den ok.i h
      obtain ⟨h, e2⟩ := mN_den kr h1 h
      exact ⟨h, by simp only [SV.den, e1, e2]⟩
    · cases hm; exact ⟨h, rfl⟩
    · cases hm; exact ⟨h, rfl⟩
    · cases hm; exact ⟨h, rfl⟩
    · split at hm
      · rename_i hf
        split at hm
        · rename_i s1 h1
          obtain ⟨h, e1⟩ := mVs_den ok kr hm h
          obtain ⟨h, e2⟩ := mVs_den ok kr h1 h
          exact ⟨h, by simp only [SV.den, e1, e2, Nat.eq_of_beq_eq_true hf]⟩
        · cases hm
      · cases hm
    · simp only [Option.map_eq_some_iff] at hm
      obtain ⟨s1, h1, rfl⟩ := hm
      obtain ⟨h, e1⟩ := mI_den ok.i h
      obtain ⟨h, e2⟩ := mI_den ok.i h
      obtain ⟨h, e3⟩ := mI_den ok.i h
      obtain ⟨h, e4⟩ := mN_den kr h1 h
      exact ⟨h, by simp only [SV.den, e1, e2, e3, e4]⟩
    · simp only [Option.map_eq_some_iff] at hm
      obtain ⟨s1, h1, rfl⟩ := hm
      obtain ⟨h, e0⟩ := mB_den ok.b h
      obtain ⟨h, e1⟩ := mI_den ok.i h
      obtain ⟨h, e2⟩ := mI_den ok.i h
      obtain ⟨h, e4⟩ := mN_den kr h1 h
      refine ⟨h, ?_⟩
      simp only [SB.den, SI.den, beq_eq_false_iff_ne, ne_eq] at e0
      simp only [SV.den, SI.den, ← e1, ← e2, e4, if_neg e0]
      rfl
    · simp only [Option.map_eq_some_iff] at hm
      obtain ⟨s1, h1, rfl⟩ := hm
      obtain ⟨h, e1⟩ := mI_den ok.i h
      obtain ⟨h, e2⟩ := mI_den ok.i h
      obtain ⟨h, e4⟩ := mN_den kr h1 h
      exact ⟨h, by simp only [SV.den, e1, e2, e4]⟩
    · cases hm
      obtain ⟨h, e1⟩ := mI_den ok.i h
      refine ⟨h, ?_⟩
      simp only [SI.den] at e1
      simp only [SV.den, ← e1, if_true]
    · split at hm
      · rename_i hf
        cases hm
        obtain ⟨h, e1⟩ := mI_den ok.i h
        obtain ⟨h, e2⟩ := mG_den ok _ _ h
        exact ⟨h, by simp only [SV.den, e1, e2, ok.I, Nat.eq_of_beq_eq_true hf]⟩
      · cases hm
    · obtain ⟨h, e1⟩ := mVs_den ok kr hm h
      exact ⟨h, by simp only [SV.den, e1]⟩
    · split at hm
      · rename_i hb
        have := Nat.eq_of_beq_eq_true hb
        subst this
        obtain ⟨h, e1⟩ := mV_den ok kr hm h
        exact ⟨h, by simp only [SV.den, e1]⟩
      · cases hm
    · cases hm; exact ⟨h, rfl⟩
    · obtain ⟨h, e1⟩ := mVs_den ok kr hm h
      exact ⟨h, by simp only [SV.den, e1]⟩
    · split at hm
      · rename_i hb
        simp only [Bool.and_eq_true] at hb
        cases hm
        have := Nat.eq_of_beq_eq_true hb.1.1
        subst this
        exact ⟨h, by simp only [SV.den]; rw [ok.e _ hb.1.2 hb.2]⟩
      · cases hm
    · split at hm
      · rename_i hb
        simp only [Bool.and_eq_true] at hb
        cases hm
        have := Nat.eq_of_beq_eq_true hb.1.1
        subst this
        exact ⟨h, by simp only [SV.den]; rw [ok.v _ hb.1.2 hb.2]⟩
      · cases hm
    · cases hm
theorem mVs_den (ok : OkAll nm lo sz ν2 ν3) (kr : KeepR nm lo sz ρ2 ρ3) : ∀ {ts vs : List SV} {s s' : Mt}, mVs nm lo sz ts vs s = some s' → s'.Sat nm ν2 ν3 ρ2 ρ3 → s.Sat nm ν2 ν3 ρ2 ρ3 ∧ denL ν2 ρ2 vs = denL ν3 ρ3 ts
  | ts, vs, s, s', hm, h => by
    unfold mVs at hm
    split at hm
    · cases hm; exact ⟨h, rfl⟩
    · rename_i t ts v vs
      split at hm
      · rename_i s1 h1
        obtain ⟨h, e1⟩ := mVs_den ok kr hm h
        obtain ⟨h, e2⟩ := mV_den ok kr h1 h
        exact ⟨h, by simp only [denL, e1, e2]⟩
      · cases hm
    · cases hm
end
end
end Go.Sy
end

section
namespace Go.Sy
open Go Go.RowKit

section
variable {P : Program} {G : Type} {nm lo sz : Nat} {ν2 ν3 : Env G} {ρ2 ρ3 : Nat → Nat}

theorem mF_den (ok : OkAll nm lo sz ν2 ν3) (kr : KeepR nm lo sz ρ2 ρ3) : ∀ {ts us : List SV} {s s' : Mt}, mF nm lo sz ts us s = some s' → s'.Sat nm ν2 ν3 ρ2 ρ3 →
    s.Sat nm ν2 ν3 ρ2 ρ3 ∧ us.length = ts.length ∧ ∀ (t : Nat) (v : SV), ts[t]? = some v → v.isDead = false → ∃ u, us[t]? = some u ∧ u.isDead = false ∧ u.den ν2 ρ2 = v.den ν3 ρ3 := by
  intro ts
  induction ts with
  | nil =>
    intro us s s' hm h
    cases us with
    | nil => cases hm; exact ⟨h, rfl, fun t v hv => by simp at hv⟩
    | cons u us => simp [mF] at hm
  | cons t ts ih =>
    intro us s s' hm h
    cases us with
    | nil => simp [mF] at hm
    | cons u us =>
      unfold mF at hm
      split at hm
      · rename_i hd
        obtain ⟨h1, h2, h3⟩ := ih hm h
        refine ⟨h1, by simp [h2], fun k v hv hdv => ?_⟩
        cases k with
        | zero => simp only [List.getElem?_cons_zero, Option.some.injEq] at hv; subst hv; rw [hd] at hdv; cases hdv
        | succ k => simpa using h3 k v (by simpa using hv) hdv
      · split at hm
        · cases hm
        · rename_i hud
          split at hm
          · rename_i s1 hs1
            obtain ⟨h1, h2, h3⟩ := ih hm h
            obtain ⟨h4, h5⟩ := mV_den ok kr hs1 h1
            refine ⟨h4, by simp [h2], fun k v hv hdv => ?_⟩
            cases k with
            | zero => simp only [List.getElem?_cons_zero, Option.some.injEq] at hv; subst hv; exact ⟨u, rfl, by simpa using hud, h5⟩
            | succ k => simpa using h3 k v (by simpa using hv) hdv
          · cases hm

theorem mBk_den (ok : OkAll nm lo sz ν2 ν3) (kr : KeepR nm lo sz ρ2 ρ3) {t b : SBk} {s s' : Mt} (hm : mBk nm lo sz P t b s = some s') (h : s'.Sat nm ν2 ν3 ρ2 ρ3) : s.Sat nm ν2 ν3 ρ2 ρ3 ∧
    ∀ {B : Base} {us : Heap} {w : World} {n m : Nat} {F : Nat → Prop}, ρ3 m = ρ2 n → HW B ν2 ρ2 us w → (n, b) ∈ us → BlkDen B ν2 ρ2 w F n b → BlkDen B ν3 ρ3 w F m t := by
  unfold mBk at hm
  split at hm
  · split at hm
    · rename_i ts ty ex vs ty' ex' hc
      simp only [Bool.and_eq_true] at hc
      have e1 := Nat.eq_of_beq_eq_true hc.1
      have e2 := bBeq_eq hc.2
      subst e1 e2
      obtain ⟨h1, h2⟩ := mVs_den ok kr hm h
      refine ⟨h1, fun {B us w n m F} hr _ _ hd => ?_⟩
      cases ex <;> simp only [BlkDen] at hd ⊢ <;> rw [hr, ← h2] <;> exact hd
    · cases hm
  · rename_i k l c ty
    split at hm
    · rename_i j l' c' ty' har
      split at hm
      · rename_i hc
        simp only [Bool.and_eq_true] at hc
        have e1 := kBeq_eq hc.1
        have e2 := Nat.eq_of_beq_eq_true hc.2
        subst e1 e2
        cases hm
        obtain ⟨h, d1⟩ := mI_den ok.i h
        obtain ⟨h, d2⟩ := mLg_den ok h
        refine ⟨h, fun {B us w n m F} hr hw hmem hd => ?_⟩
        obtain ⟨rest, r1, r2, r3⟩ := asRow_den hw hmem har
        have hF := BlkDen.single (asRow_nores har) hd
        simp only [BlkDen]
        rw [hr, ← d1, ← d2]
        exact ⟨⟨rest, r1, r2, r3⟩, hF⟩
      · cases hm
    · cases hm
  · cases hm
    obtain ⟨h, d1⟩ := mG_den ok _ _ h
    refine ⟨h, fun {B us w n m F} hr _ _ hd => ?_⟩
    simp only [BlkDen] at hd ⊢
    rw [hr, ← d1, ← ok.I]; exact hd
  · split at hm
    · rename_i hk
      have hk := kBeq_eq hk
      subst hk
      cases hm
      obtain ⟨h, d1⟩ := mL_den ok.l h
      obtain ⟨h, d2⟩ := mI_den ok.i h
      refine ⟨h, fun {B us w n m F} hr _ _ hd => ?_⟩
      simp only [BlkDen] at hd ⊢
      rw [hr, ← d1, ← d2]; exact hd
    · cases hm
  · split at hm
    · rename_i hk
      simp only [Bool.and_eq_true] at hk
      have e1 := Nat.eq_of_beq_eq_true hk.1
      have e2 := ksBeq_eq hk.2
      subst e1 e2
      cases hm
      obtain ⟨h, d1⟩ := mI_den ok.i h
      obtain ⟨h, d2⟩ := mI_den ok.i h
      obtain ⟨h, d3⟩ := mG_den ok _ _ h
      refine ⟨h, fun {B us w n m F} hr _ _ hd => ?_⟩
      simp only [BlkDen] at hd ⊢
      rw [hr, ← d1, ← d2, ← d3, ← ok.I]; exact hd
    · cases hm
  · cases hm

theorem mH1_den (ok : OkAll nm lo sz ν2 ν3) (kr : KeepR nm lo sz ρ2 ρ3) (us : Heap) : ∀ {ts q : Heap} {acc acc' : List (Nat × Nat)} {s s' : Mt}, mH1 nm lo sz P us ts acc s = some (q, acc', s') → s'.Sat nm ν2 ν3 ρ2 ρ3 → s.Sat nm ν2 ν3 ρ2 ρ3 ∧ (∀ y ∈ acc, y ∈ acc') ∧
    ∀ x ∈ ts, x ∈ q ∨ ∃ n b, (x.1, n) ∈ acc' ∧ (n, b) ∈ us ∧ (inH nm x.1 = true → ρ3 x.1 = ρ2 n) ∧ (inH nm x.1 = false → n = x.1) ∧ ∀ {B : Base} {w : World} {m : Nat} {F : Nat → Prop}, ρ3 m = ρ2 n → HW B ν2 ρ2 us w → BlkDen B ν2 ρ2 w F n b → BlkDen B ν3 ρ3 w F m x.2
  | [], q, acc, acc', s, s', hm, h => by cases hm; exact ⟨h, fun _ h => h, fun x hx => by cases hx⟩
  | (m, c) :: r, q, acc, acc', s, s', hm, h => by
    unfold mH1 at hm
    split at hm
    · split at hm
      · rename_i q' a1 s1 hs1
        cases hm
        obtain ⟨h1, h0, h2⟩ := mH1_den ok kr us hs1 h
        refine ⟨h1, h0, fun x hx => ?_⟩
        rcases List.mem_cons.1 hx with rfl | hx
        · exact .inl (List.mem_cons_self ..)
        · rcases h2 x hx with h | h
          · exact .inl (List.mem_cons_of_mem _ h)
          · exact .inr h
      · cases hm
    · rename_i n hn
      split at hm
      · cases hm
      · rename_i b hb
        split at hm
        · cases hm
        · rename_i s1 hs1
          obtain ⟨h1, h0, h2⟩ := mH1_den ok kr us hm h
          obtain ⟨h3, h4⟩ := mBk_den ok kr hs1 h1
          refine ⟨h3, fun y hy => h0 y (List.mem_cons_of_mem _ hy), fun x hx => ?_⟩
          rcases List.mem_cons.1 hx with rfl | hx
          · refine .inr ⟨n, b, h0 _ (List.mem_cons_self ..), hget_mem hb, fun hH => ?_, fun hH => ?_, fun {B w m F} hr hw hd => h4 hr hw (hget_mem hb) hd⟩
            · unfold sigM at hn
              rw [hH] at hn
              exact h3.b _ (lkp_mem hn)
            · unfold sigM at hn
              rw [hH] at hn
              exact (Option.some.inj hn).symm
          · exact h2 x hx

theorem mHs_den (ok : OkAll nm lo sz ν2 ν3) (kr : KeepR nm lo sz ρ2 ρ3) (us : Heap) : ∀ {k : Nat} {ts : Heap} {acc acc' : List (Nat × Nat)} {s s' : Mt}, mHs nm lo sz P us k ts acc s = some (acc', s') → s'.Sat nm ν2 ν3 ρ2 ρ3 → s.Sat nm ν2 ν3 ρ2 ρ3 ∧ (∀ y ∈ acc, y ∈ acc') ∧
    ∀ x ∈ ts, ∃ n b, (x.1, n) ∈ acc' ∧ (n, b) ∈ us ∧ (inH nm x.1 = true → ρ3 x.1 = ρ2 n) ∧ (inH nm x.1 = false → n = x.1) ∧ ∀ {B : Base} {w : World} {m : Nat} {F : Nat → Prop}, ρ3 m = ρ2 n → HW B ν2 ρ2 us w → BlkDen B ν2 ρ2 w F n b → BlkDen B ν3 ρ3 w F m x.2
  | _, [], acc, acc', s, s', hm, h => by simp only [mHs] at hm; cases hm; exact ⟨h, fun _ h => h, fun x hx => by cases hx⟩
  | 0, x :: r, acc, acc', s, s', hm, h => by simp [mHs] at hm
  | k + 1, x :: r, acc, acc', s, s', hm, h => by
    unfold mHs at hm
    split at hm
    · rename_i q a1 s1 hs1
      obtain ⟨h1, h0, h2⟩ := mHs_den ok kr us hm h
      obtain ⟨h3, h5, h4⟩ := mH1_den ok kr us hs1 h1
      refine ⟨h3, fun y hy => h0 y (h5 y hy), fun x hx => ?_⟩
      rcases h4 x hx with hq | ⟨n, b, e1, e2⟩
      · exact h2 x hq
      · exact ⟨n, b, h0 _ e1, e2⟩
    · cases hm

theorem snd_inj {l : List (Nat × Nat)} (h : (l.map (·.2)).Nodup) {a b n : Nat} (ha : (a, n) ∈ l) (hb : (b, n) ∈ l) : a = b := by
  induction l with
  | nil => cases ha
  | cons x r ih =>
    simp only [List.map_cons, List.nodup_cons] at h
    rcases List.mem_cons.1 ha with ha | ha <;> rcases List.mem_cons.1 hb with hb | hb
    · rw [← ha] at hb; cases hb; rfl
    · rw [← ha] at h; exact absurd (List.mem_map.2 ⟨_, hb, rfl⟩) h.1
    · rw [← hb] at h; exact absurd (List.mem_map.2 ⟨_, ha, rfl⟩) h.1
    · exact ih h.2 ha hb

/-- The heap. -/
theorem mHs_hw (ok : OkAll nm lo sz ν2 ν3) (kr : KeepR nm lo sz ρ2 ρ3) {hu ht : Heap} {k : Nat} {acc : List (Nat × Nat)} {s1 s : Mt} (hm : mHs nm lo sz P hu k ht [] s1 = some (acc, s)) (c1 : nodupB (ht.map (·.1)) = true) (c2 : nodupB (acc.map (·.2)) = true) (c3 : (ht.all fun x => inH nm x.1 || out lo (lo + sz) x.1) = true) (h : s.Sat nm ν2 ν3 ρ2 ρ3) {B : Base} {w : World} (hw : HW B ν2 ρ2 hu w) :
    s1.Sat nm ν2 ν3 ρ2 ρ3 ∧ HW B ν3 ρ3 ht w := by
  obtain ⟨h1, -, h2⟩ := mHs_den ok kr hu hm h
  refine ⟨h1, ?_⟩
  obtain ⟨F, f1, f2, f3⟩ := hw.foot
  have pick : ∀ m c, (m, c) ∈ ht → ∃ n b, (m, n) ∈ acc ∧ (n, b) ∈ hu ∧ BlkDen B ν3 ρ3 w (F n) m c := by
    intro m c hx
    obtain ⟨n, b, e1, e2, e3, e4, hd⟩ := h2 (m, c) hx
    have hr : ρ3 m = ρ2 n := by
      cases hH : inH nm m with
      | true => exact e3 hH
      | false =>
        have := e4 hH
        subst this
        have h6 := List.all_eq_true.1 c3 _ hx
        simp only [hH, Bool.false_or] at h6
        exact kr _ (by unfold inH at hH; simpa using hH) h6
    exact ⟨n, b, e1, e2, hd hr hw (f1 _ _ e2)⟩
  have hnd := nodupB_nd c1
  have pick' : ∀ m, ∃ n, ∀ c, (m, c) ∈ ht → ∃ b, (m, n) ∈ acc ∧ (n, b) ∈ hu ∧ BlkDen B ν3 ρ3 w (F n) m c := by
    intro m
    by_cases hx : ∃ c, (m, c) ∈ ht
    · obtain ⟨c, hc⟩ := hx
      obtain ⟨n, b, e1, e2, e3⟩ := pick m c hc
      refine ⟨n, fun c' hc' => ⟨b, e1, e2, ?_⟩⟩
      rw [hget_unique hnd hc' hc]; exact e3
    · exact ⟨0, fun c hc => absurd ⟨c, hc⟩ hx⟩
  obtain ⟨f, hf⟩ := Classical.axiomOfChoice pick'
  refine ⟨hw.os, hw.tape, hw.output, hw.size, hw.kept, hnd, fun m => F (f m), ?_, ?_, ?_⟩
  · intro m c hx
    obtain ⟨b, -, -, h⟩ := hf m c hx
    exact h
  · intro m c k hx hk
    obtain ⟨b, -, h, -⟩ := hf m c hx
    exact f2 (f m) b k h hk
  · intro m c m' c' k hx hx' hk hk'
    obtain ⟨b, h1, h2, -⟩ := hf m c hx
    obtain ⟨b', h1', h2', -⟩ := hf m' c' hx'
    have e := f3 _ b _ b' k h2 h2' hk hk'
    rw [e] at h1
    exact snd_inj (nodupB_nd c2) h1 h1'

/-- All of it. -/
theorem mAll_den (ok : OkAll nm lo sz ν2 ν3) (kr : KeepR nm lo sz ρ2 ρ3) {us : List SV} {hu : Heap} {ts : List SV} {ht : Heap} {s : Mt} (hm : mAll nm lo sz P us hu ts ht = some s) (h : s.Sat nm ν2 ν3 ρ2 ρ3) :
    (∀ act, FR ν2 ρ2 us act → FR ν3 ρ3 ts act) ∧ ∀ B w, HW B ν2 ρ2 hu w → HW B ν3 ρ3 ht w := by
  unfold mAll at hm
  split at hm
  · rename_i s1 hs1
    split at hm
    · rename_i acc s2 hs2
      split at hm
      · rename_i hc
        cases hm
        simp only [Bool.and_eq_true] at hc
        obtain ⟨⟨⟨c1, c2⟩, c3⟩, -⟩ := hc
        obtain ⟨h1, -, -⟩ := mHs_den ok kr hu hs2 h
        obtain ⟨-, h3, h4⟩ := mF_den ok kr hs1 h1
        refine ⟨fun act hf => ⟨by rw [hf.size, h3], fun t v hv hdead => ?_, hf.defers⟩, fun B w hw => (mHs_hw ok kr hs2 c1 c2 c3 h hw).2⟩
        obtain ⟨u, hu', hud, hden⟩ := h4 t v hv hdead
        rw [hf.tmps t u hu' hud, hden]
      · cases hm
    · cases hm
  · cases hm
theorem mAll_fine {us : List SV} {hu : Heap} {ts : List SV} {ht : Heap} {s : Mt} (hm : mAll nm lo sz P us hu ts ht = some s) : s.fine nm = true := by
  unfold mAll at hm
  split at hm
  · split at hm
    · split at hm
      · rename_i hc
        cases hm
        simp only [Bool.and_eq_true] at hc
        exact hc.2
      · cases hm
    · cases hm
  · cases hm
end
end Go.Sy
end

section
namespace Go.Sy
open Go Go.RowKit

section
variable {G : Type} {ν : Env G} {nm : Nat} {x : Vals G}
theorem at_i {j : Nat} (h : j < 64) : (ν.at nm x).i (nm + j) = x.i j := by
  show (match inH nm (nm + j) with | true => x.i (nm + j - nm) | false => ν.i (nm + j)) = _
  rw [inH_of h]
  show x.i _ = x.i _
  congr 1; omega
theorem at_l {j : Nat} (h : j < 64) : (ν.at nm x).l (nm + j) = x.l j := by
  show (match inH nm (nm + j) with | true => x.l (nm + j - nm) | false => ν.l (nm + j)) = _
  rw [inH_of h]
  show x.l _ = x.l _
  congr 1; omega
theorem at_g {j : Nat} (h : j < 64) : (ν.at nm x).g (nm + j) = x.g j := by
  show (match inH nm (nm + j) with | true => x.g (nm + j - nm) | false => ν.g (nm + j)) = _
  rw [inH_of h]
  show x.g _ = x.g _
  congr 1; omega
theorem at_io {m : Nat} (h : out nm (nm + 64) m = true) : (ν.at nm x).i m = ν.i m := by
  show (match inH nm m with | true => x.i (m - nm) | false => ν.i m) = _
  rw [inH_out h]
theorem at_lo {m : Nat} (h : out nm (nm + 64) m = true) : (ν.at nm x).l m = ν.l m := by
  show (match inH nm m with | true => x.l (m - nm) | false => ν.l m) = _
  rw [inH_out h]
theorem at_go {m : Nat} (h : out nm (nm + 64) m = true) : (ν.at nm x).g m = ν.g m := by
  show (match inH nm m with | true => x.g (m - nm) | false => ν.g m) = _
  rw [inH_out h]
theorem at_agree {ρ ρ' : Nat → Nat} (hr : ∀ n, out nm (nm + 64) n = true → ρ' n = ρ n) : Agree nm (nm + 64) ν (ν.at nm x) ρ ρ' :=
  ⟨rfl, fun _ h => at_go h, fun _ h => at_io h, fun _ _ => rfl, fun _ _ => rfl, fun _ h => at_lo h, fun _ _ => rfl, hr⟩
end

structure SumT where
  ex : SEx
  k : Nat
  mt : Mt
  pc : PC
/-- Two numbers, or two Bools, that are not the same are asked to be. -/
def Mt.clash (m : Mt) : Bool := (m.qi.any fun y => match y with
  | (.lit a, .lit b) => !(intBeq a b)
  | _ => false) || m.qb.any fun y => match y with
  | (.lit a, .lit b) => !(bBeq a b)
  | _ => false
/-- The first way out that fits. -/
def findT (P : Program) (nm lo sz : Nat) (L : Leaf) : Nat → List Tgt → Option (Nat × Mt)
  | _, [] => none
  | i, t :: r => if exBeq t.ex L.ex then match mAll nm lo sz P L.fr L.hp t.fr t.hp with
      | some m => if m.clash then findT P nm lo sz L (i + 1) r else some (i, m)
      | none => findT P nm lo sz L (i + 1) r
    else findT P nm lo sz L (i + 1) r
/-- A leaf against the head (the first one), or the ways out. -/
def sumT (P : Program) (nm lo sz : Nat) (tg : List Tgt) (L : Leaf) : Option SumT := match tg with
  | [] => none
  | h :: r => match L.ex with
    | .bad => some ⟨.bad, 0, .none, L.pc⟩
    | .normal => (mAll nm lo sz P L.fr L.hp h.fr h.hp).map (⟨.normal, 0, ·, L.pc⟩)
    | ex => (findT P nm lo sz L 0 r).map fun x => ⟨ex, x.1, x.2, L.pc⟩
theorem findT_some {P : Program} {nm lo sz : Nat} {L : Leaf} : ∀ {r : List Tgt} {i k : Nat} {m : Mt}, findT P nm lo sz L i r = some (k, m) → i ≤ k ∧ ∃ t, r[k - i]? = some t ∧ t.ex = L.ex ∧ mAll nm lo sz P L.fr L.hp t.fr t.hp = some m
  | [], _, _, _, h => by cases h
  | t :: r, i, k, m, h => by
    have step : findT P nm lo sz L (i + 1) r = some (k, m) → i ≤ k ∧ ∃ t', (t :: r)[k - i]? = some t' ∧ t'.ex = L.ex ∧ mAll nm lo sz P L.fr L.hp t'.fr t'.hp = some m := fun h => by
      obtain ⟨h1, t', h2, h3⟩ := findT_some h
      refine ⟨by omega, t', ?_, h3⟩
      have : k - i = (k - (i + 1)) + 1 := by omega
      rw [this]; exact h2
    unfold findT at h
    split at h
    · rename_i hb
      split at h
      · rename_i m' hm
        split at h
        · exact step h
        · cases h
          exact ⟨Nat.le_refl _, t, by simp, exBeq_eq hb, hm⟩
      · exact step h
    · exact step h
def sumsT (P : Program) (nm lo sz : Nat) (tg : List Tgt) : List Leaf → Option (List SumT)
  | [] => some []
  | L :: r => match sumT P nm lo sz tg L, sumsT P nm lo sz tg r with
    | some s, some l => some (s :: l)
    | _, _ => none
theorem sumsT_mem {P : Program} {nm lo sz : Nat} {tg : List Tgt} : ∀ {ls : List Leaf} {l : List SumT}, sumsT P nm lo sz tg ls = some l → ∀ L ∈ ls, ∃ s ∈ l, sumT P nm lo sz tg L = some s
  | [], _, _, L, hL => by cases hL
  | M :: r, l, h, L, hL => by
    unfold sumsT at h
    split at h
    · rename_i s l' hs hl
      cases h
      rcases List.mem_cons.1 hL with rfl | hL
      · exact ⟨s, by simp, hs⟩
      · obtain ⟨s', hs', he⟩ := sumsT_mem hl L hL
        exact ⟨s', by simp [hs'], he⟩
    · cases h

def LO7 : Nat := 2 ^ 700
def SZ7 : Nat := 2 ^ 650
theorem out_big7 {m : Nat} (h : m < 1000) : out LO7 (LO7 + SZ7) m = true := by
  unfold LO7 SZ7; exact out_big h
theorem out_nm7 {s j : Nat} (hs : Nat.ble s 100000 = true) (h : j < 64) : out LO7 (LO7 + SZ7) (nmAt s + j) = true := by
  unfold LO7 SZ7; exact out_nm hs h
attribute [irreducible] LO7 SZ7
/-- What a round's end sees: the head's values, what is around. -/
structure RF {G : Type} (nm : Nat) (ν : Env G) (x : Vals G) (ν2 : Env G) : Prop where
  I : ν2.I = ν.I
  i : ∀ j, j < 64 → ν2.i (nm + j) = x.i j
  l : ∀ j, j < 64 → ν2.l (nm + j) = x.l j
  g : ∀ j, j < 64 → ν2.g (nm + j) = x.g j
  io : ∀ m, m < 1000 → ν2.i m = ν.i m
  lo : ∀ m, m < 1000 → ν2.l m = ν.l m
  go : ∀ m, m < 1000 → ν2.g m = ν.g m
  bo : ∀ m, m < 1000 → ν2.b m = ν.b m

section
variable {P : Program} {G : Type} {O : Orac} {I : In G}
theorem mt_sat {nm : Nat} {s : Mt} {d : G} {ν2 ν3 : Env G} {ρ2 ρ : Nat → Nat} (hf : s.fine nm = true) (hi : ∀ j, j < 64 → ν3.i (nm + j) = (s.vals d ν2).i j) (hl : ∀ j, j < 64 → ν3.l (nm + j) = (s.vals d ν2).l j) (hg : ∀ j, j < 64 → ν3.g (nm + j) = (s.vals d ν2).g j) (ho : s.Owed ν2 ν3) :
    s.Sat nm ν2 ν3 ρ2 (fun m => match inH nm m, lkp m s.b with | true, some n => ρ2 n | _, _ => ρ m) := by
  unfold Mt.fine at hf
  simp only [Bool.and_eq_true] at hf
  obtain ⟨⟨⟨⟨⟨⟨⟨c1, c2⟩, c3⟩, c4⟩, c5⟩, c6⟩, c7⟩, c8⟩ := hf
  have sm : ∀ {α : Type} {l : List (Nat × α)}, small l = true → ∀ y ∈ l, y.1 < 64 := fun h y hy => by
    have := List.all_eq_true.1 h y hy
    exact Nat.le_of_ble_eq_true this
  refine ⟨ho, fun y hy => ?_, fun y hy => ?_, fun y hy => ?_, fun y hy => ?_⟩
  · have h1 := List.all_eq_true.1 c8 y hy
    have h2 := lkp_of (x := y.2) (nodupB_nd c4) hy
    simp only [h1, h2]
  · rw [hi _ (sm c5 y hy)]
    simp only [Mt.vals, lkp_of (x := y.2) (nodupB_nd c1) hy]
  · rw [hl _ (sm c6 y hy)]
    simp only [Mt.vals, lkp_of (x := y.2) (nodupB_nd c2) hy]
  · rw [hg _ (sm c7 y hy)]
    simp only [Mt.vals, lkp_of (x := y.2) (nodupB_nd c3) hy]

theorem okAll_of {nm lo sz : Nat} {ν ν1 ν2 ν3 : Env G} {ρ ρ1 ρ2 ρ3 : Nat → Nat} (a1 : Agree nm (nm + 64) ν ν1 ρ ρ1) (a2 : Agree lo (lo + sz) ν1 ν2 ρ1 ρ2) (a3 : Agree nm (nm + 64) ν ν3 ρ ρ3) : OkAll nm lo sz ν2 ν3 where
  I := (a2.I.trans a1.I).trans a3.I.symm
  i := fun e he => by simp only [okI, Bool.and_eq_true] at he; rw [SI.den_agree a2 e he.2, SI.den_agree a1 e he.1, SI.den_agree a3 e he.1]
  l := fun e he => by simp only [okL, Bool.and_eq_true] at he; rw [SL.den_agree a2 e he.2, SL.den_agree a1 e he.1, SL.den_agree a3 e he.1]
  g := fun e he => by simp only [okG, Bool.and_eq_true] at he; rw [SG.den_agree a2 e he.2, SG.den_agree a1 e he.1, SG.den_agree a3 e he.1]
  b := fun e he => by simp only [okQ, Bool.and_eq_true] at he; rw [SB.den_agree a2 e he.2, SB.den_agree a1 e he.1, SB.den_agree a3 e he.1]
  v := fun n h1 h2 => by rw [a2.v n h2, a1.v n h1, a3.v n h1]
  e := fun n h1 h2 => by rw [a2.e n h2, a1.e n h1, a3.e n h1]

/-- A loop: its head is a frame and a heap with names; each round, each end is that with other values. 'J': what holds of the values; 'm': what each round lowers. -/
theorem loopT_ok (pr : PR P) (oo : OOK P O I) {f s n it : Nat} {nm : Nat} (hnm : nm = nmAt s) (hs : Nat.ble s 100000 = true) (h1 : (loopsAt P f s).length = 1) {fr0 frI : List SV} {hp0 hpI : Heap} {pcI bads : PC} {tg : List Tgt} {sums : List SumT} {start : Mt} (d : G)
    (hbody : (codeX P O LO7 SZ7 f n it (loopAt P f s) frI pcI hpI).bind (sumsT P nm LO7 SZ7 (⟨.normal, frI, hpI, pcI⟩ :: tg)) = some sums)
    (hst : mAll nm 0 0 P fr0 hp0 frI hpI = some start)
    (J : Env G → Vals G → Prop) (m : Env G → Vals G → Nat)
    (hstart : ∀ ν, ν.I = I → (∀ x ∈ bads, x.1.den ν ≠ x.2) → J ν (start.vals d ν) ∧ pcDen (ν.at nm (start.vals d ν)) pcI ∧ start.Owed ν (ν.at nm (start.vals d ν)))
    (round : ∀ t ∈ sums, ∀ ν x ν2, ν.I = I → (∀ y ∈ bads, y.1.den ν ≠ y.2) → J ν x → pcDen (ν.at nm x) pcI → RF nm ν x ν2 → pcDen ν2 t.pc →
      match t.ex with
      | .normal => J ν (t.mt.vals d ν2) ∧ pcDen (ν.at nm (t.mt.vals d ν2)) pcI ∧ m ν (t.mt.vals d ν2) < m ν x ∧ t.mt.Owed ν2 (ν.at nm (t.mt.vals d ν2))
      | .bad => False
      | _ => (∀ g, tg[t.k]? = some g → pcDen (ν.at nm (t.mt.vals d ν2)) g.pc) ∧ t.mt.Owed ν2 (ν.at nm (t.mt.vals d ν2))) {O' : Orac} (oo' : OOK P O' I) :
    OOK P (O'.withLoop f s nm fr0 hp0 (mkM nm tg bads)) I := by
  have hsm : ∀ {m : Nat}, m < 1000 → out nm (nm + 64) m = true := fun h => by rw [hnm]; exact out_small h
  have hbg : ∀ {j : Nat}, j < 64 → out LO7 (LO7 + SZ7) (nm + j) = true := fun h => by rw [hnm]; exact out_nm7 hs h
  have hbs : ∀ {m : Nat}, m < 1000 → out LO7 (LO7 + SZ7) m = true := fun h => out_big7 h
  refine withLoop_ok oo' h1 ?_
  intro pc sub hsub hpart B ν ρ Q hQ hI hl act w hpc hf hw
  unfold mkM at hl
  cases hp : pav nm (nm + 64) pc with
  | false => rw [hp] at hl; exact (hl ⟨.bad, [], [], []⟩ (by simp) act w ⟨ν, ρ, Agree.refl _ _ _ _, pcDen_nil _, fun h => h.elim⟩).elim
  | true =>
    rw [hp] at hl
    simp only [if_true] at hl
    have hbad : ∀ x ∈ bads, x.1.den ν ≠ x.2 := prune_denG hpc fun x hx he =>
      (hl ⟨.bad, [], x :: pc, []⟩ (List.mem_append_right _ (List.mem_map.2 ⟨x, hx, rfl⟩)) act w ⟨ν, ρ, Agree.refl _ _ _ _, pcDen_one' he hpc, fun h => h.elim⟩).elim
    have hmono : ∀ {ν3 : Env G} {ρ3 : Nat → Nat}, Agree nm (nm + 64) ν ν3 ρ ρ3 → Agree nm (nm + sub) ν ν3 ρ ρ3 := fun h => h.mono (Nat.ble_eq_true_of_le (Nat.le_refl _)) (Nat.ble_eq_true_of_le (by omega))
    cases hb : codeX P O LO7 SZ7 f n it (loopAt P f s) frI pcI hpI with
    | none => rw [hb] at hbody; cases hbody
    | some lsB =>
      rw [hb] at hbody
      simp only [Option.bind_some] at hbody
      obtain ⟨g1, g2, g3⟩ := hstart ν hI hbad
      -- one way from what is there to the head's form
      have conv : ∀ {lo' sz' : Nat} {x1 : Vals G} {ν1 ν2 : Env G} {ρ1 ρ2 : Nat → Nat} {mt : Mt} {us ts : List SV} {hu ht : Heap}, Agree nm (nm + 64) ν ν1 ρ ρ1 → Agree lo' (lo' + sz') ν1 ν2 ρ1 ρ2 → mAll nm lo' sz' P us hu ts ht = some mt → mt.Owed ν2 (ν.at nm (mt.vals d ν2)) →
          ∃ ρ3, Agree nm (nm + 64) ν (ν.at nm (mt.vals d ν2)) ρ ρ3 ∧ (∀ act, FR ν2 ρ2 us act → FR (ν.at nm (mt.vals d ν2)) ρ3 ts act) ∧ ∀ w, HW B ν2 ρ2 hu w → HW B (ν.at nm (mt.vals d ν2)) ρ3 ht w := by
        intro lo' sz' x1 ν1 ν2 ρ1 ρ2 mt us ts hu ht a1 a2 hm ho
        have hfine := mAll_fine hm
        let ρ3 : Nat → Nat := fun m => match inH nm m, lkp m mt.b with | true, some n => ρ2 n | _, _ => ρ m
        have hr3 : ∀ n, out nm (nm + 64) n = true → ρ3 n = ρ n := fun n hn => by
          show (match inH nm n, lkp n mt.b with | true, some n => ρ2 n | _, _ => ρ n) = ρ n
          rw [inH_out hn]
        have a3 : Agree nm (nm + 64) ν (ν.at nm (mt.vals d ν2)) ρ ρ3 := at_agree hr3
        have hsat : mt.Sat nm ν2 (ν.at nm (mt.vals d ν2)) ρ2 ρ3 := mt_sat hfine (fun j hj => at_i hj) (fun j hj => at_l hj) (fun j hj => at_g hj) ho
        have kr : KeepR nm lo' sz' ρ2 ρ3 := fun n h1 h2 => by rw [hr3 n h1, a2.r n h2, a1.r n h1]
        obtain ⟨k1, k2⟩ := mAll_den (okAll_of a1 a2 a3) kr hm hsat
        exact ⟨ρ3, a3, k1, fun w => k2 B w⟩
      obtain ⟨ρ0, s1, s2, s3⟩ := conv (x1 := start.vals d ν) (Agree.refl _ _ ν ρ) (Agree.refl 0 (0 + 0) ν ρ) hst g3
      refine wp_loop_ghost (fun k act w => ∃ x ρ1, Agree nm (nm + 64) ν (ν.at nm x) ρ ρ1 ∧ J ν x ∧ pcDen (ν.at nm x) pcI ∧ m ν x = k ∧ FR (ν.at nm x) ρ1 frI act ∧ HW B (ν.at nm x) ρ1 hpI w) (m ν (start.vals d ν)) ⟨_, ρ0, s1, g1, g2, rfl, s2 _ hf, s3 _ hw⟩ ?_
      rintro k act w ⟨x, ρ1, k1, k2, k3, k4, k5, k6⟩
      refine x_code pr oo hb hpart B (ν.at nm x) ρ1 (Exit.then _ Q) (k1.I.trans hI) (fun ch a w hq => hQ ch a w hq) ?_ act w ⟨ν.at nm x, ρ1, Agree.refl _ _ _ _, k3, fun _ => ⟨k5, k6⟩⟩
      rintro L hL act' w' ⟨ν2, ρ2, e1, e2, e3⟩
      obtain ⟨t, ht, hsum⟩ := sumsT_mem hbody L hL
      have rf : RF nm ν x ν2 :=
        ⟨e1.I.trans k1.I, fun j hj => (e1.i _ (hbg hj)).trans (at_i hj), fun j hj => (e1.l _ (hbg hj)).trans (at_l hj), fun j hj => (e1.g _ (hbg hj)).trans (at_g hj),
          fun j hj => (e1.i _ (hbs hj)).trans (at_io (hsm hj)), fun j hj => (e1.l _ (hbs hj)).trans (at_lo (hsm hj)), fun j hj => (e1.g _ (hbs hj)).trans (at_go (hsm hj)), fun j hj => (e1.b _ (hbs hj))⟩
      have hr := round t ht ν x ν2 hI hbad k2 k3 rf
      unfold sumT at hsum
      cases hex : L.ex with
      | normal =>
        rw [hex] at hsum e3
        simp only [Option.map_eq_some_iff] at hsum
        obtain ⟨mt, hm, rfl⟩ := hsum
        obtain ⟨q1, q2, q3, q4⟩ := hr e2
        obtain ⟨hf2, hw2⟩ := e3 trivial
        obtain ⟨ρ3, b1, b2, b3⟩ := conv (x1 := x) k1 e1 hm q4
        exact ⟨_, by rw [← k4]; exact q3, _, ρ3, b1, q1, q2, rfl, b2 _ hf2, b3 _ hw2⟩
      | exit i =>
        rw [hex] at hsum e3
        simp only [Option.map_eq_some_iff] at hsum
        obtain ⟨⟨k, mt⟩, hfind, rfl⟩ := hsum
        obtain ⟨-, t', ht', m2, hm⟩ := findT_some hfind
        rw [Nat.sub_zero] at ht'
        have m1 := List.mem_of_getElem? ht'
        rw [hex] at m2
        obtain ⟨q2, q3⟩ := hr e2
        obtain ⟨hf2, hw2⟩ := e3 trivial
        obtain ⟨ρ3, b1, b2, b3⟩ := conv (x1 := x) k1 e1 hm q3
        have := hl ⟨t'.ex, t'.fr, t'.pc ++ pc, t'.hp⟩ (List.mem_append_left _ (List.mem_map.2 ⟨t', List.mem_filter.2 ⟨m1, by rw [m2]; rfl⟩, rfl⟩)) act' w'
          ⟨_, ρ3, hmono b1, pcDen_append (q2 t' ht') (pcDen_agree b1 hp hpc), fun _ => ⟨b2 _ hf2, b3 _ hw2⟩⟩
        simp only [m2] at this
        exact this
      | ret =>
        rw [hex] at hsum e3
        simp only [Option.map_eq_some_iff] at hsum
        obtain ⟨⟨k, mt⟩, hfind, rfl⟩ := hsum
        obtain ⟨-, t', ht', m2, hm⟩ := findT_some hfind
        rw [Nat.sub_zero] at ht'
        have m1 := List.mem_of_getElem? ht'
        rw [hex] at m2
        obtain ⟨q2, q3⟩ := hr e2
        obtain ⟨hf2, hw2⟩ := e3 trivial
        obtain ⟨ρ3, b1, b2, b3⟩ := conv (x1 := x) k1 e1 hm q3
        have := hl ⟨t'.ex, t'.fr, t'.pc ++ pc, t'.hp⟩ (List.mem_append_left _ (List.mem_map.2 ⟨t', List.mem_filter.2 ⟨m1, by rw [m2]; rfl⟩, rfl⟩)) act' w'
          ⟨_, ρ3, hmono b1, pcDen_append (q2 t' ht') (pcDen_agree b1 hp hpc), fun _ => ⟨b2 _ hf2, b3 _ hw2⟩⟩
        simp only [m2] at this
        exact this
      | bad =>
        rw [hex] at hsum
        simp only [Option.some.injEq] at hsum
        subst hsum
        exact (hr e2).elim
end
end Go.Sy
end

section
namespace Go.Sy
open Go Go.RowKit

/-! ### names replaced by terms -/
structure Sub where
  i : Nat → SI
  l : Nat → SL
  g : Nat → SG
  b : Nat → SB
  r : Nat → Nat
section
variable (p : Nat → Bool)
mutual
/-- All names are such. -/
def SI.okn : SI → Bool
  | .lit _ => true
  | .var i => p i
  | .add a b | .sub a b | .mul a b | .tdiv a b | .tmod a b | .fdiv a b | .bits _ _ a b => a.okn && b.okn
  | .wrap _ a => a.okn
  | .nat a => a.okn
  | .len l => l.okn
  | .nth l i => l.okn && i.okn
  | .gi _ g a b => g.okn && a.okn && b.okn
def SL.okn : SL → Bool
  | .nil => true
  | .cons x l => x.okn && l.okn
  | .var i => p i
  | .app a b => a.okn && b.okn
  | .set l i x => l.okn && i.okn && x.okn
  | .take l n | .drop l n => l.okn && n.okn
  | .rep n x => n.okn && x.okn
  | .gl _ g a b => g.okn && a.okn && b.okn
def SG.okn : SG → Bool
  | .var i => p i
  | .app _ g h a b c d l => g.okn && h.okn && a.okn && b.okn && c.okn && d.okn && l.okn
end
def SB.okn : SB → Bool
  | .lit _ => true
  | .var i => p i
  | .not a => a.okn
  | .and a b | .or a b | .same a b => a.okn && b.okn
  | .eq a b | .lt a b | .le a b => a.okn p && b.okn p
  | .gb _ g a b => g.okn p && a.okn p && b.okn p
mutual
def SV.okn : SV → Bool
  | .int _ e => e.okn p
  | .bool e => e.okn p
  | .ptr b o => p b && o.okn p
  | .nilPtr | .nilFunc | .nilSl => true
  | .dead => true
  | .emp _ => false
  | .fn _ a b => oknL a && oknL b
  | .sl b o l c => p b && o.okn p && l.okn p && c.okn p
  | .opq _ => false
  | .agg l | .tup l => oknL l
  | .gv _ g i => g.okn p && i.okn p
  | .osl b l c => p b && l.okn p && c.okn p
  | .ifc _ v => v.okn
  | .nilIf => true
def oknL : List SV → Bool
  | [] => true
  | x :: xs => x.okn && oknL xs
end
def SBk.okn : SBk → Bool
  | .cells cs _ _ => oknL p cs
  | .row _ l c _ => l.okn p && c.okn p
  | .res g => g.okn p
  | _ => false
def pokn : PC → Bool
  | [] => true
  | (c, _) :: r => c.okn p && pokn r
end

section
variable (σ : Sub)
mutual
def SI.sb : SI → SI
  | .lit n => .lit n
  | .var i => σ.i i
  | .add a b => .mkAdd a.sb b.sb
  | .sub a b => .mkSub a.sb b.sb
  | .mul a b => .mkMul a.sb b.sb
  | .tdiv a b => .mkTdiv a.sb b.sb
  | .tmod a b => .mkTmod a.sb b.sb
  | .fdiv a b => .mkFdiv a.sb b.sb
  | .wrap k a => .mkWrap k a.sb
  | .nat a => .mkNat a.sb
  | .bits op k a b => .mkBits op k a.sb b.sb
  | .len l => .mkLen l.sb
  | .nth l i => .mkNth l.sb i.sb
  | .gi f g a b => .gi f g.sb a.sb b.sb
def SL.sb : SL → SL
  | .nil => .nil
  | .cons x l => .cons x.sb l.sb
  | .var i => σ.l i
  | .app a b => .mkApp a.sb b.sb
  | .set l i x => .mkSet l.sb i.sb x.sb
  | .take l n => .mkTake l.sb n.sb
  | .drop l n => .mkDrop l.sb n.sb
  | .rep n x => .rep n.sb x.sb
  | .gl f g a b => .gl f g.sb a.sb b.sb
def SG.sb : SG → SG
  | .var i => σ.g i
  | .app f g h a b c d l => .app f g.sb h.sb a.sb b.sb c.sb d.sb l.sb
end
def SB.sb : SB → SB
  | .lit b => .lit b
  | .var i => σ.b i
  | .not a => .mkNot a.sb
  | .and a b => .mkAnd a.sb b.sb
  | .or a b => .or a.sb b.sb
  | .eq a b => .mkEq (a.sb σ) (b.sb σ)
  | .lt a b => .mkLt (a.sb σ) (b.sb σ)
  | .le a b => .mkLe (a.sb σ) (b.sb σ)
  | .same a b => .mkSame a.sb b.sb
  | .gb f g a b => .gb f (g.sb σ) (a.sb σ) (b.sb σ)
mutual
def SV.sb : SV → SV
  | .int k e => .int k (e.sb σ)
  | .bool e => .bool (e.sb σ)
  | .ptr b o => .ptr (σ.r b) (o.sb σ)
  | .nilPtr => .nilPtr
  | .nilFunc => .nilFunc
  | .nilSl => .nilSl
  | .dead => .dead
  | .emp i => .emp i
  | .fn f a b => .fn f (sbL a) (sbL b)
  | .sl b o l c => .sl (σ.r b) (o.sb σ) (l.sb σ) (c.sb σ)
  | .opq i => .opq i
  | .agg l => .agg (sbL l)
  | .tup l => .tup (sbL l)
  | .gv f g i => .gv f (g.sb σ) (i.sb σ)
  | .osl b l c => .osl (σ.r b) (l.sb σ) (c.sb σ)
  | .ifc t v => .ifc t v.sb
  | .nilIf => .nilIf
def sbL : List SV → List SV
  | [] => []
  | x :: xs => x.sb :: sbL xs
end
def SBk.sb : SBk → SBk
  | .cells cs ty ex => .cells (sbL σ cs) ty ex
  | .row k l c ty => .row k (l.sb σ) (c.sb σ) ty
  | .res g => .res (g.sb σ)
  | b => b
end

/-- A reading of the terms in place of the names. -/
structure SubOK {G : Type} (σ : Sub) (p : Nat → Bool) (ν ν' : Env G) (ρ ρ' : Nat → Nat) : Prop where
  I : ν'.I = ν.I
  i : ∀ n, p n = true → (σ.i n).den ν' = ν.i n
  l : ∀ n, p n = true → (σ.l n).den ν' = ν.l n
  g : ∀ n, p n = true → (σ.g n).den ν' = ν.g n
  b : ∀ n, p n = true → (σ.b n).den ν' = ν.b n
  r : ∀ n, p n = true → ρ' (σ.r n) = ρ n

section
variable {G : Type} {σ : Sub} {p : Nat → Bool} {ν ν' : Env G} {ρ ρ' : Nat → Nat} (h : SubOK σ p ν ν' ρ ρ')
include h
mutual
theorem SI.sb_den : ∀ (e : SI), e.okn p = true → (e.sb σ).den ν' = e.den ν
  | .lit _, _ => rfl
  | .var n, hp => h.i n hp
  | .add a b, hp => by simp only [SI.okn, Bool.and_eq_true] at hp; simp only [SI.sb, SI.mkAdd_den, SI.den, SI.sb_den a hp.1, SI.sb_den b hp.2]
  | .sub a b, hp => by simp only [SI.okn, Bool.and_eq_true] at hp; simp only [SI.sb, SI.mkSub_den, SI.den, SI.sb_den a hp.1, SI.sb_den b hp.2]
  | .mul a b, hp => by simp only [SI.okn, Bool.and_eq_true] at hp; simp only [SI.sb, SI.mkMul_den, SI.den, SI.sb_den a hp.1, SI.sb_den b hp.2]
  | .tdiv a b, hp => by simp only [SI.okn, Bool.and_eq_true] at hp; simp only [SI.sb, SI.mkTdiv_den, SI.den, SI.sb_den a hp.1, SI.sb_den b hp.2]
  | .tmod a b, hp => by simp only [SI.okn, Bool.and_eq_true] at hp; simp only [SI.sb, SI.mkTmod_den, SI.den, SI.sb_den a hp.1, SI.sb_den b hp.2]
  | .fdiv a b, hp => by simp only [SI.okn, Bool.and_eq_true] at hp; simp only [SI.sb, SI.mkFdiv_den, SI.den, SI.sb_den a hp.1, SI.sb_den b hp.2]
  | .bits _ _ a b, hp => by simp only [SI.okn, Bool.and_eq_true] at hp; simp only [SI.sb, SI.mkBits_den, SI.den, SI.sb_den a hp.1, SI.sb_den b hp.2]
  | .wrap _ a, hp => by simp only [SI.okn] at hp; simp only [SI.sb, SI.mkWrap_den, SI.den, SI.sb_den a hp]
  | .nat a, hp => by simp only [SI.okn] at hp; simp only [SI.sb, SI.mkNat_den, SI.den, SI.sb_den a hp]
  | .len l, hp => by simp only [SI.okn] at hp; simp only [SI.sb, SI.mkLen_den, SI.den, SL.sb_den l hp]
  | .nth l i, hp => by simp only [SI.okn, Bool.and_eq_true] at hp; simp only [SI.sb, SI.mkNth_den, SI.den, SL.sb_den l hp.1, SI.sb_den i hp.2]
  | .gi f g a b, hp => by simp only [SI.okn, Bool.and_eq_true] at hp; simp only [SI.sb, SI.den, h.I, SG.sb_den g hp.1.1, SI.sb_den a hp.1.2, SI.sb_den b hp.2]
theorem SL.sb_den : ∀ (e : SL), e.okn p = true → (e.sb σ).den ν' = e.den ν
  | .nil, _ => rfl
  | .cons x l, hp => by simp only [SL.okn, Bool.and_eq_true] at hp; simp only [SL.sb, SL.den, SI.sb_den x hp.1, SL.sb_den l hp.2]
  | .var n, hp => h.l n hp
  | .app a b, hp => by simp only [SL.okn, Bool.and_eq_true] at hp; simp only [SL.sb, SL.mkApp_den, SL.den, SL.sb_den a hp.1, SL.sb_den b hp.2]
  | .set l i x, hp => by simp only [SL.okn, Bool.and_eq_true] at hp; simp only [SL.sb, SL.mkSet_den, SL.den, SL.sb_den l hp.1.1, SI.sb_den i hp.1.2, SI.sb_den x hp.2]
  | .take l n, hp => by simp only [SL.okn, Bool.and_eq_true] at hp; simp only [SL.sb, SL.mkTake_den, SL.den, SL.sb_den l hp.1, SI.sb_den n hp.2]
  | .drop l n, hp => by simp only [SL.okn, Bool.and_eq_true] at hp; simp only [SL.sb, SL.mkDrop_den, SL.den, SL.sb_den l hp.1, SI.sb_den n hp.2]
  | .rep n x, hp => by simp only [SL.okn, Bool.and_eq_true] at hp; simp only [SL.sb, SL.den, SI.sb_den n hp.1, SI.sb_den x hp.2]
  | .gl f g a b, hp => by simp only [SL.okn, Bool.and_eq_true] at hp; simp only [SL.sb, SL.den, h.I, SG.sb_den g hp.1.1, SI.sb_den a hp.1.2, SI.sb_den b hp.2]
theorem SG.sb_den : ∀ (e : SG), e.okn p = true → (e.sb σ).den ν' = e.den ν
  | .var n, hp => h.g n hp
  | .app f g k a b c d l, hp => by
    simp only [SG.okn, Bool.and_eq_true] at hp
    simp only [SG.sb, SG.den, h.I, SG.sb_den g hp.1.1.1.1.1.1, SG.sb_den k hp.1.1.1.1.1.2, SI.sb_den a hp.1.1.1.1.2, SI.sb_den b hp.1.1.1.2, SI.sb_den c hp.1.1.2, SI.sb_den d hp.1.2, SL.sb_den l hp.2]
end
theorem SB.sb_den : ∀ (e : SB), e.okn p = true → (e.sb σ).den ν' = e.den ν
  | .lit _, _ => rfl
  | .var n, hp => h.b n hp
  | .not a, hp => by simp only [SB.okn] at hp; simp only [SB.sb, SB.mkNot_den, SB.den, SB.sb_den a hp]
  | .and a b, hp => by simp only [SB.okn, Bool.and_eq_true] at hp; simp only [SB.sb, SB.mkAnd_den, SB.den, SB.sb_den a hp.1, SB.sb_den b hp.2]
  | .or a b, hp => by simp only [SB.okn, Bool.and_eq_true] at hp; simp only [SB.sb, SB.den, SB.sb_den a hp.1, SB.sb_den b hp.2]
  | .eq a b, hp => by simp only [SB.okn, Bool.and_eq_true] at hp; simp only [SB.sb, SB.mkEq_den, SB.den, SI.sb_den h a hp.1, SI.sb_den h b hp.2]
  | .lt a b, hp => by simp only [SB.okn, Bool.and_eq_true] at hp; simp only [SB.sb, SB.mkLt_den, SB.den, SI.sb_den h a hp.1, SI.sb_den h b hp.2]
  | .le a b, hp => by simp only [SB.okn, Bool.and_eq_true] at hp; simp only [SB.sb, SB.mkLe_den, SB.den, SI.sb_den h a hp.1, SI.sb_den h b hp.2]
  | .same a b, hp => by simp only [SB.okn, Bool.and_eq_true] at hp; simp only [SB.sb, SB.mkSame_den, SB.den, SB.sb_den a hp.1, SB.sb_den b hp.2]
  | .gb f g a b, hp => by simp only [SB.okn, Bool.and_eq_true] at hp; simp only [SB.sb, SB.den, h.I, SG.sb_den h g hp.1.1, SI.sb_den h a hp.1.2, SI.sb_den h b hp.2]
end
section
variable {G : Type} {σ : Sub} {p : Nat → Bool} {ν ν' : Env G} {ρ ρ' : Nat → Nat}
mutual
theorem SV.sb_den (h : SubOK σ p ν ν' ρ ρ') : ∀ (e : SV), e.okn p = true → (e.sb σ).den ν' ρ' = e.den ν ρ
  | .int k e, hp => by simp only [SV.okn] at hp; simp only [SV.sb, SV.den, SI.sb_den h e hp]
  | .bool e, hp => by simp only [SV.okn] at hp; simp only [SV.sb, SV.den, SB.sb_den h e hp]
  | .ptr b o, hp => by simp only [SV.okn, Bool.and_eq_true] at hp; simp only [SV.sb, SV.den, h.r b hp.1, SI.sb_den h o hp.2]
  | .nilPtr, _ => rfl
  | .nilFunc, _ => rfl
  | .nilSl, _ => rfl
  | .dead, _ => rfl
  | .emp i, hp => by simp [SV.okn] at hp
  | .opq i, hp => by simp [SV.okn] at hp
  | .fn f a b, hp => by simp only [SV.okn, Bool.and_eq_true] at hp; simp only [SV.sb, SV.den, sbL_den h a hp.1, sbL_den h b hp.2]
  | .sl b o l c, hp => by simp only [SV.okn, Bool.and_eq_true] at hp; simp only [SV.sb, SV.den, h.r b hp.1.1.1, SI.sb_den h o hp.1.1.2, SI.sb_den h l hp.1.2, SI.sb_den h c hp.2]
  | .agg l, hp => by simp only [SV.okn] at hp; simp only [SV.sb, SV.den, sbL_den h l hp]
  | .tup l, hp => by simp only [SV.okn] at hp; simp only [SV.sb, SV.den, sbL_den h l hp]
  | .gv f g i, hp => by simp only [SV.okn, Bool.and_eq_true] at hp; simp only [SV.sb, SV.den, h.I, SG.sb_den h g hp.1, SI.sb_den h i hp.2]
  | .osl b l c, hp => by simp only [SV.okn, Bool.and_eq_true] at hp; simp only [SV.sb, SV.den, h.r b hp.1.1, SI.sb_den h l hp.1.2, SI.sb_den h c hp.2]
  | .ifc t v, hp => by simp only [SV.okn] at hp; simp only [SV.sb, SV.den, SV.sb_den h v hp]
  | .nilIf, _ => rfl
theorem sbL_den (h : SubOK σ p ν ν' ρ ρ') : ∀ (e : List SV), oknL p e = true → denL ν' ρ' (sbL σ e) = denL ν ρ e
  | [], _ => rfl
  | x :: xs, hp => by simp only [oknL, Bool.and_eq_true] at hp; simp only [sbL, denL, SV.sb_den h x hp.1, sbL_den h xs hp.2]
end
end
section
variable {G : Type} {σ : Sub} {p : Nat → Bool} {ν ν' : Env G} {ρ ρ' : Nat → Nat} (h : SubOK σ p ν ν' ρ ρ')
include h
theorem SBk.sb_den {B B' : Base} {w : World} {F : Nat → Prop} {n : Nat} (hn : p n = true) : ∀ {b : SBk}, b.okn p = true → BlkDen B ν ρ w F n b → BlkDen B' ν' ρ' w F (σ.r n) (b.sb σ)
  | .cells cs ty true, hp, hd => by simp only [SBk.okn] at hp; simp only [SBk.sb, BlkDen] at hd ⊢; rw [sbL_den h cs hp, h.r n hn]; exact hd
  | .cells cs ty false, hp, hd => by simp only [SBk.okn] at hp; simp only [SBk.sb, BlkDen] at hd ⊢; rw [sbL_den h cs hp, h.r n hn]; exact hd
  | .row k l c ty, hp, hd => by simp only [SBk.okn, Bool.and_eq_true] at hp; simp only [SBk.sb, BlkDen] at hd ⊢; rw [SL.sb_den h l hp.1, SI.sb_den h c hp.2, h.r n hn]; exact hd
  | .res g, hp, hd => by simp only [SBk.okn] at hp; simp only [SBk.sb, BlkDen] at hd ⊢; rw [SG.sb_den h g hp, h.r n hn, h.I]; exact hd
  | .view _ _ _, hp, _ => by simp [SBk.okn] at hp
  | .tab _ _ _ _ _, hp, _ => by simp [SBk.okn] at hp
theorem pc_sb {pc : PC} : pokn p pc = true → pcDen ν pc → ∀ c b, (c, b) ∈ pc → (c.sb σ).den ν' = b := by
  intro hp hd c b hm
  have : c.okn p = true := by
    induction pc with
    | nil => cases hm
    | cons x r ih =>
      obtain ⟨c', b'⟩ := x
      simp only [pokn, Bool.and_eq_true] at hp
      rcases List.mem_cons.1 hm with hm | hm
      · cases hm; exact hp.1
      · exact ih hp.2 (fun d y hy => hd d y (List.mem_cons_of_mem _ hy)) hm
  rw [SB.sb_den h c this]
  exact hd c b hm
end
end Go.Sy
end

section
namespace Go.Sy
open Go Go.RowKit

/-! ### what a run says of a function, used at its calls -/
/-! names of 64 and on -/
def insN (n : Nat) (l : List Nat) : List Nat := if Nat.ble (n + 1) 64 || l.any (Nat.beq n) then l else n :: l
mutual
def SI.nms : SI → List Nat → List Nat
  | .lit _, s => s
  | .var i, s => insN i s
  | .add a b, s | .sub a b, s | .mul a b, s | .tdiv a b, s | .tmod a b, s | .fdiv a b, s | .bits _ _ a b, s => b.nms (a.nms s)
  | .wrap _ a, s => a.nms s
  | .nat a, s => a.nms s
  | .len l, s => l.nms s
  | .nth l i, s => i.nms (l.nms s)
  | .gi _ g a b, s => b.nms (a.nms (g.nms s))
def SL.nms : SL → List Nat → List Nat
  | .nil, s => s
  | .cons x l, s => l.nms (x.nms s)
  | .var i, s => insN i s
  | .app a b, s => b.nms (a.nms s)
  | .set l i x, s => x.nms (i.nms (l.nms s))
  | .take l n, s | .drop l n, s => n.nms (l.nms s)
  | .rep n x, s => x.nms (n.nms s)
  | .gl _ g a b, s => b.nms (a.nms (g.nms s))
def SG.nms : SG → List Nat → List Nat
  | .var i, s => insN i s
  | .app _ g h a b c d l, s => l.nms (d.nms (c.nms (b.nms (a.nms (h.nms (g.nms s))))))
end
def SB.nms : SB → List Nat → List Nat
  | .lit _, s => s
  | .var i, s => insN i s
  | .not a, s => a.nms s
  | .and a b, s | .or a b, s | .same a b, s => b.nms (a.nms s)
  | .eq a b, s | .lt a b, s | .le a b, s => b.nms (a.nms s)
  | .gb _ g a b, s => b.nms (a.nms (g.nms s))
mutual
def SV.nms : SV → List Nat → List Nat
  | .int _ e, s => e.nms s
  | .bool e, s => e.nms s
  | .ptr b o, s => o.nms (insN b s)
  | .fn _ a b, s => nmsL b (nmsL a s)
  | .sl b o l c, s => c.nms (l.nms (o.nms (insN b s)))
  | .agg l, s | .tup l, s => nmsL l s
  | .ifc _ v, s => v.nms s
  | .gv _ g i, s => i.nms (g.nms s)
  | .osl b l c, s => c.nms (l.nms (insN b s))
  | _, s => s
def nmsL : List SV → List Nat → List Nat
  | [], s => s
  | x :: xs, s => nmsL xs (x.nms s)
end
def SBk.nms : SBk → List Nat → List Nat
  | .cells cs _ _, s => nmsL cs s
  | .row _ l c _, s => c.nms (l.nms s)
  | .res g, s => g.nms s
  | _, s => s
def hnms : Heap → List Nat → List Nat
  | [], s => s
  | (n, b) :: r, s => hnms r (b.nms (insN n s))
def pnms : PC → List Nat → List Nat
  | [], s => s
  | (c, _) :: r, s => pnms r (c.nms s)
def ixN (n : Nat) : List Nat → Nat
  | [] => 0
  | m :: r => if Nat.beq m n then 0 else ixN n r + 1
def inL (n : Nat) (l : List Nat) : Bool := l.any (Nat.beq n)

/-! ### which blocks are handed over -/
section
variable (P : Program)
def lB (t b : SBk) : SBk := match t with
  | .view _ _ _ => match asRow P b with
    | some (k, l, _, _) => .view k (.lit 0) l
    | none => b
  | _ => b
def lH1 (us : Heap) : Heap → Mt → Option (Heap × Mt)
  | [], s => some ([], s)
  | (m, c) :: r, s => match sigM 0 s m with
    | none => match lH1 us r s with
      | some (q, s) => some ((m, c) :: q, s)
      | none => none
    | some n => match hget n us with
      | none => none
      | some b => match mBk 0 0 0 P c (lB P c b) s with
        | none => none
        | some s => lH1 us r s
def lHs (us : Heap) : Nat → Heap → Mt → Option Mt
  | _, [], s => some s
  | 0, _ :: _, _ => none
  | n + 1, x :: r, s => match lH1 P us (x :: r) s with
    | some (q, s) => lHs us n q s
    | none => none
def isView : SBk → Bool
  | .view _ _ _ | .tab _ _ _ _ _ => true
  | _ => false
/-- The names of blocks that are the callee's own. -/
def handed (us : Heap) (args targs : List SV) (ht : Heap) : Option (List Nat) :=
  match mVs 0 0 0 targs args .none with
  | none => none
  | some s => match lHs P us (ht.length + 1) ht s with
    | none => none
    | some s => some (ht.filterMap fun x => if isView x.2 then none else lkp x.1 s.b)
/-- The heap as the callee sees it: what is not handed over can be read alone. -/
def seen (S : List Nat) : Heap → Heap
  | [] => []
  | (n, b) :: r => if inL n S then (n, b) :: seen S r else match b with
    | .view k o l => (n, .view k o l) :: seen S r
    | .tab f g ks o m => (n, .tab f g ks o m) :: seen S r
    | b => match asRow P b with
      | some (k, l, _, _) => (n, .view k (.lit 0) l) :: seen S r
      | none => seen S r
end

section
variable {P : Program} {G : Type} {B : Base} {ν : Env G} {ρ : Nat → Nat} {hp : Heap} {w : World}
theorem inL_mem {n : Nat} {l : List Nat} (h : inL n l = true) : n ∈ l := by
  obtain ⟨m, hm, he⟩ := List.any_eq_true.1 h
  rw [Nat.eq_of_beq_eq_true he]; exact hm
theorem mem_inL {n : Nat} {l : List Nat} (h : n ∈ l) : inL n l = true := List.any_eq_true.2 ⟨n, h, Nat.beq_refl n⟩

theorem seen_mem {S : List Nat} : ∀ {hp : Heap} {n : Nat} {b : SBk}, (n, b) ∈ seen P S hp → ∃ b0, (n, b0) ∈ hp ∧ ((inL n S = true ∧ b = b0) ∨ (inL n S = false ∧ isView b0 = true ∧ b = b0) ∨ (inL n S = false ∧ ∃ k l c ty, asRow P b0 = some (k, l, c, ty) ∧ b = .view k (.lit 0) l))
  | [], _, _, h => by cases h
  | (m, c) :: r, n, b, h => by
    have tl : (n, b) ∈ seen P S r → _ := fun h => seen_mem h
    have lift : (∃ b0, (n, b0) ∈ r ∧ ((inL n S = true ∧ b = b0) ∨ (inL n S = false ∧ isView b0 = true ∧ b = b0) ∨ (inL n S = false ∧ ∃ k l c ty, asRow P b0 = some (k, l, c, ty) ∧ b = .view k (.lit 0) l))) → ∃ b0, (n, b0) ∈ (m, c) :: r ∧ ((inL n S = true ∧ b = b0) ∨ (inL n S = false ∧ isView b0 = true ∧ b = b0) ∨ (inL n S = false ∧ ∃ k l c ty, asRow P b0 = some (k, l, c, ty) ∧ b = .view k (.lit 0) l)) := fun ⟨b0, h1, h2⟩ => ⟨b0, List.mem_cons_of_mem _ h1, h2⟩
    unfold seen at h
    split at h
    · rename_i hS
      rcases List.mem_cons.1 h with h | h
      · cases h; exact ⟨_, List.mem_cons_self .., .inl ⟨hS, rfl⟩⟩
      · exact lift (tl h)
    · rename_i hS
      have hS : inL m S = false := by simpa using hS
      split at h
      · rcases List.mem_cons.1 h with h | h
        · cases h; exact ⟨_, List.mem_cons_self .., .inr (.inl ⟨hS, rfl, rfl⟩)⟩
        · exact lift (tl h)
      · rcases List.mem_cons.1 h with h | h
        · cases h; exact ⟨_, List.mem_cons_self .., .inr (.inl ⟨hS, rfl, rfl⟩)⟩
        · exact lift (tl h)
      · split at h
        · rename_i har
          rcases List.mem_cons.1 h with h | h
          · cases h; exact ⟨_, List.mem_cons_self .., .inr (.inr ⟨hS, _, _, _, _, har, rfl⟩)⟩
          · exact lift (tl h)
        · exact lift (tl h)
theorem seen_sub {S : List Nat} : ∀ (hp : Heap), ((seen P S hp).map (·.1)).Sublist (hp.map (·.1))
  | [] => by simp [seen]
  | (m, c) :: r => by
    unfold seen
    split
    · simpa using seen_sub r
    · split
      · simpa using seen_sub r
      · simpa using seen_sub r
      · split
        · simpa using seen_sub r
        · exact (seen_sub r).cons _

/-- The base of a call: what is handed over is its own. -/
def baseS (w : World) (hp : Heap) (S : List Nat) (F : Nat → Nat → Prop) : Base := ⟨w, fun k => ∃ n b, (n, b) ∈ hp ∧ inL n S = true ∧ F n k⟩

theorem HW.seen (h : HW B ν ρ hp w) (S : List Nat) {F : Nat → Nat → Prop} (f1 : ∀ n b, (n, b) ∈ hp → BlkDen B ν ρ w (F n) n b) (f2 : ∀ n b k, (n, b) ∈ hp → F n k → B.own k) (f3 : ∀ n b m c k, (n, b) ∈ hp → (m, c) ∈ hp → F n k → F m k → n = m)
    (hv : ∀ n b, (n, b) ∈ hp → inL n S = true → isView b = false) : HW (baseS w hp S F) ν ρ (seen P S hp) w := by
  have hmine : ∀ k, (baseS w hp S F).mine k → B.own k := fun k ⟨n, b, h1, _, h3⟩ => f2 n b k h1 h3
  have hold : ∀ k, ¬ B.own k → ¬ (baseS w hp S F).own k := fun k hk hc => by
    rcases hc with hc | hc
    · exact hk (.inl (Nat.le_trans h.size hc))
    · exact hk (hmine k hc)
  refine ⟨rfl, rfl, rfl, Nat.le_refl _, fun _ _ => rfl, (seen_sub hp).nodup h.nd, fun n k => inL n S = true ∧ F n k, ?_, ?_, ?_⟩
  · intro n b hm
    obtain ⟨b0, hb0, hh⟩ := seen_mem hm
    have hd := f1 n b0 hb0
    rcases hh with ⟨hS, rfl⟩ | ⟨hS, hvw, rfl⟩ | ⟨hS, k, l, c, ty, har, rfl⟩
    · have hnv := hv n b hb0 hS
      have hF : (fun k => inL n S = true ∧ F n k) = F n := by funext k; simp [hS]
      show BlkDen _ ν ρ w (fun k => inL n S = true ∧ F n k) n b
      rw [hF]
      cases b with
      | cells cs ty ex => cases ex <;> exact hd
      | row k l c ty => exact hd
      | res g => exact hd
      | view k o l => cases hnv
      | tab f g ks o m => cases hnv
    · cases b with
      | cells cs ty ex => cases hvw
      | row k l c ty => cases hvw
      | res g => cases hvw
      | view k o l =>
        simp only [BlkDen] at hd ⊢
        refine ⟨fun j => by simp [hS], hold _ hd.2.1, hd.2.2.1, fun j x hx => ?_⟩
        show w.cell? _ = _
        rw [h.kept_cell hd.2.1]
        exact hd.2.2.2 j x hx
      | tab f g ks o m =>
        simp only [BlkDen] at hd ⊢
        refine ⟨fun j => by simp [hS], hold _ hd.2.1, hd.2.2.1, fun i j k hi hk => ?_⟩
        show w.cell? _ = _
        rw [h.kept_cell hd.2.1]
        exact hd.2.2.2 i j k hi hk
    · obtain ⟨rest, r1, r2, r3⟩ := asRow_den h hb0 har
      have hF := BlkDen.single (asRow_nores har) hd
      simp only [BlkDen]
      refine ⟨fun j => by simp [hS], fun hc => ?_, by simp [SI.den], fun j x hx => ?_⟩
      · rcases hc with hc | ⟨n', b', h1, h2, h3⟩
        · have := (Array.getElem?_eq_some_iff.1 r1).1
          have hc : w.heap.size ≤ ρ n := hc
          omega
        · have := f3 n b0 n' b' (ρ n) hb0 h1 ((hF _).2 rfl) h3
          rw [this] at hS
          rw [hS] at h2; cases h2
      · show w.cell? _ = _
        simp only [SI.den]
        have := cell_at (w := w) r1 j
        simp only [Int.toNat_zero, Nat.zero_add]
        rw [this, List.getElem?_append_left (by simp; exact (List.getElem?_eq_some_iff.1 hx).1)]
        simp [hx]
  · rintro n b k hm ⟨hS, hk⟩
    obtain ⟨b0, hb0, _⟩ := seen_mem hm
    exact .inr ⟨n, b0, hb0, hS, hk⟩
  · rintro n b m c k hm hm' ⟨_, hk⟩ ⟨_, hk'⟩
    obtain ⟨b0, hb0, _⟩ := seen_mem hm
    obtain ⟨c0, hc0, _⟩ := seen_mem hm'
    exact f3 n b0 m c0 k hb0 hc0 hk hk'
end
end Go.Sy
end

section
namespace Go.Sy
open Go Go.RowKit

structure Tmpl where
  args : List SV
  pc : PC
  hp : Heap
def bI (s : Mt) (n : Nat) : SI := match lkp n s.i with | some e => e | none => .var n
def bL (s : Mt) (n : Nat) : SL := match lkp n s.l with | some e => e | none => .var n
def bG (s : Mt) (n : Nat) : SG := match lkp n s.g with | some e => e | none => .var n
def bN (s : Mt) (n : Nat) : Nat := match lkp n s.b with | some m => m | none => n
def sub0 (s : Mt) : Sub := ⟨bI s, bL s, bG s, .var, bN s⟩
def p0 (n : Nat) : Bool := Nat.ble (n + 1) 64
def pAll (_ : Nat) : Bool := true
def sub1 (s : Mt) (fm : List Nat) (lo : Nat) : Sub :=
  ⟨fun n => if p0 n then bI s n else .var (lo + ixN n fm), fun n => if p0 n then bL s n else .var (lo + ixN n fm), fun n => if p0 n then bG s n else .var (lo + ixN n fm), fun n => if p0 n then .var n else .var (lo + ixN n fm),
   fun n => if p0 n then bN s n else lo + ixN n fm⟩
def p1 (fm : List Nat) (n : Nat) : Bool := p0 n || inL n fm
/-- What must not be, for the template to fit. -/
def owes (s : Mt) (pc : PC) : Option PC := match s.qg with
  | [] => if s.ql.all (fun y => y.2.okn pAll && (y.2.sb (sub0 s)).beq y.1) && s.qi.all (fun y => y.2.okn pAll) && s.qb.all (fun y => y.2.okn pAll) && pokn pAll pc then
      some ((s.qi.map fun y => (SB.mkEq y.1 (y.2.sb (sub0 s)), false)) ++ ((s.qb.map fun y => (SB.mkSame y.1 (y.2.sb (sub0 s)), false)) ++ pc.map fun x => (x.1.sb (sub0 s), !x.2))) else none
  | _ => none
def asmP (bs : PC) : PC := bs.map fun x => asm x.1 x.2
/-- The path of a leaf; 'none': it cannot be. -/
def sbPC (σ : Sub) (pcA : PC) : PC → Option PC
  | [] => some []
  | (c, b) :: r => match sbPC σ pcA r with
    | none => none
    | some q => match (c.sb σ).known pcA with
      | some v => if bBeq v b then some q else none
      | none => some (asm (c.sb σ) b :: q)
def putAll (σ : Sub) : Heap → Heap → Heap
  | [], h => h
  | (n, b) :: r, h => putAll σ r (hadd (σ.r n) (b.sb σ) h)
def oknH (p : Nat → Bool) (h : Heap) : Bool := h.all fun x => p x.1 && x.2.okn p
def leafS (s : Mt) (lo : Nat) (pcA : PC) (rest : Heap) (c : CLeaf) : Option (List CLeaf) :=
  if c.bad then
    let fm := pnms c.pc []
    if pokn (p1 fm) c.pc && Nat.ble fm.length 64 then match sbPC (sub1 s fm lo) pcA c.pc with
      | none => some []
      | some q => some [⟨true, .tup [], q ++ pcA, []⟩]
    else none
  else
    let own := c.hp.filter fun x => !isView x.2
    let fm := pnms c.pc (hnms own (c.v.nms []))
    if pokn (p1 fm) c.pc && oknH (p1 fm) own && c.v.okn (p1 fm) && Nat.ble fm.length 64 && nodupB (own.map (·.1)) then match sbPC (sub1 s fm lo) pcA c.pc with
      | none => some []
      | some q => let h := putAll (sub1 s fm lo) own rest
        if nodupB (h.map (·.1)) && nodupB ((own.map fun x => (sub1 s fm lo).r x.1) ++ rest.map (·.1)) then some [⟨false, c.v.sb (sub1 s fm lo), q ++ pcA, h⟩] else none
    else none
def bndAv (s : Mt) (lo : Nat) : Bool := s.i.all (fun y => y.2.av lo (lo + 64)) && s.l.all (fun y => y.2.av lo (lo + 64)) && s.g.all (fun y => y.2.av lo (lo + 64)) && s.b.all (fun y => out lo (lo + 64) y.2)
/-- What a slice leads to, of what can be read: its own part. -/
def narrow (pc : PC) : List SV → Heap → Heap
  | [], us => us
  | .sl b o n _ :: r, us => narrow pc r (match hget b us with
    | some (.view k ov l) => match subOff ov o with
      | some i => if (o.beq ov && (SI.mkLen l).beq n) || !(i.nn pc) then us else hset b (.view k o (SL.mkTake (SL.mkDrop l i) n)) us
      | none => us
    | _ => us)
  | _ :: r, us => narrow pc r us
def sumK (P : Program) (T : Tmpl) (ou : List CLeaf) (lo : Nat) (args : List SV) (pc : PC) (hp : Heap) : Option (List CLeaf) :=
  match handed P hp args T.args T.hp with
  | none => none
  | some S => match mVs 0 0 0 T.args args .none with
    | none => none
    | some s0 => match mHs 0 0 0 P (narrow pc args (seen P S hp)) (T.hp.length + 1) T.hp [] s0 with
      | none => none
      | some (acc, s) => match owes s T.pc with
        | none => none
        | some ow =>
          let rest := hp.filter fun x => !inL x.1 S
          if s.fine 0 && nodupB (T.hp.map (·.1)) && nodupB (acc.map (·.2)) && (T.hp.all fun x => inH 0 x.1) && bndAv s lo && Nat.ble 64 lo && hav lo (lo + 64) rest && pav lo (lo + 64) pc && (hp.all fun x => !(inL x.1 S && isView x.2)) then
            (bindL (leafS s lo pc rest) ou).map (· ++ (prune pc ow).map (bad1 pc))
          else none

section
variable {P : Program} {G : Type} {O : Orac} {I : In G}
theorem p0_lt {n : Nat} (h : p0 n = true) : n < 64 := Nat.le_of_ble_eq_true h
theorem ixN_get : ∀ {fm : List Nat} {n : Nat}, n ∈ fm → fm[ixN n fm]? = some n
  | [], n, h => by cases h
  | m :: r, n, h => by
    unfold ixN
    split
    · rename_i hb
      rw [Nat.eq_of_beq_eq_true hb]; rfl
    · rename_i hb
      rcases List.mem_cons.1 h with h | h
      · subst h; exact absurd (Nat.beq_refl n) hb
      · simpa using ixN_get h
theorem lkp_none_of {α : Type} {n : Nat} {l : List (Nat × α)} (h : ∀ y ∈ l, y.1 ≠ n) : lkp n l = none := by
  cases hl : lkp n l with
  | none => rfl
  | some x => exact absurd rfl (h _ (lkp_mem hl))

theorem putAll_mem {σ : Sub} {x : Nat × SBk} : ∀ {own h : Heap}, x ∈ putAll σ own h ↔ (∃ y ∈ own, x = (σ.r y.1, y.2.sb σ)) ∨ x ∈ h
  | [], h => by simp [putAll]
  | (n, b) :: r, h => by
    unfold putAll
    rw [putAll_mem, mem_hadd]
    constructor
    · rintro (⟨y, hy, e⟩ | e | e)
      · exact .inl ⟨y, List.mem_cons_of_mem _ hy, e⟩
      · exact .inl ⟨(n, b), List.mem_cons_self .., e⟩
      · exact .inr e
    · rintro (⟨y, hy, e⟩ | e)
      · rcases List.mem_cons.1 hy with rfl | hy
        · exact .inr (.inl e)
        · exact .inl ⟨y, hy, e⟩
      · exact .inr (.inr e)

theorem sbPC_den {σ : Sub} {p : Nat → Bool} {ν ν' : Env G} {ρ ρ' : Nat → Nat} (h : SubOK σ p ν ν' ρ ρ') {pcA : PC} (hA : pcDen ν' pcA) : ∀ {pc : PC}, pokn p pc = true → pcDen ν pc → ∃ q, sbPC σ pcA pc = some q ∧ pcDen ν' q
  | [], _, _ => ⟨[], rfl, pcDen_nil _⟩
  | (c, b) :: r, hp, hd => by
    simp only [pokn, Bool.and_eq_true] at hp
    obtain ⟨q, hq, hqd⟩ := sbPC_den h hA hp.2 (fun d y hm => hd d y (List.mem_cons_of_mem _ hm))
    have hc : (c.sb σ).den ν' = b := by rw [SB.sb_den h c hp.1]; exact hd c b (List.mem_cons_self ..)
    unfold sbPC
    rw [hq]
    simp only
    cases hk : (c.sb σ).known pcA with
    | none => exact ⟨_, rfl, pcDen_asm hc hqd⟩
    | some v =>
      have := SB.known_den hA hk
      rw [hc] at this
      subst this
      refine ⟨q, ?_, hqd⟩
      simp only
      rw [if_pos (by cases b <;> rfl)]

/-- The template's reading of a state. -/
def Env.tm (ν : Env G) (s : Mt) : Env G := { ν with i := fun n => (bI s n).den ν, l := fun n => (bL s n).den ν, g := fun n => (bG s n).den ν }
theorem sub0_ok (ν : Env G) (s : Mt) (ρ : Nat → Nat) : SubOK (sub0 s) pAll (ν.tm s) ν (fun n => ρ (bN s n)) ρ :=
  ⟨rfl, fun _ _ => rfl, fun _ _ => rfl, fun _ _ => rfl, fun _ _ => rfl, fun _ _ => rfl⟩

/-- The caller's reading behind a call: the new names' values. -/
def Env.bk (ν ν3 : Env G) (lo : Nat) (fm : List Nat) : Env G :=
  { ν with
    i := fun m => match inH lo m with | true => ν3.i (fm.getD (m - lo) 0) | false => ν.i m
    l := fun m => match inH lo m with | true => ν3.l (fm.getD (m - lo) 0) | false => ν.l m
    g := fun m => match inH lo m with | true => ν3.g (fm.getD (m - lo) 0) | false => ν.g m
    b := fun m => match inH lo m with | true => ν3.b (fm.getD (m - lo) 0) | false => ν.b m }
def rhoBk (ρ ρ3 : Nat → Nat) (lo : Nat) (fm : List Nat) : Nat → Nat := fun m => match inH lo m with | true => ρ3 (fm.getD (m - lo) 0) | false => ρ m
theorem bk_agree {ν ν3 : Env G} {ρ ρ3 : Nat → Nat} {lo : Nat} {fm : List Nat} : Agree lo (lo + 64) ν (ν.bk ν3 lo fm) ρ (rhoBk ρ ρ3 lo fm) where
  I := rfl
  g := fun n hn => by show (match inH lo n with | true => _ | false => _) = _; rw [inH_out hn]
  i := fun n hn => by show (match inH lo n with | true => _ | false => _) = _; rw [inH_out hn]
  b := fun n hn => by show (match inH lo n with | true => _ | false => _) = _; rw [inH_out hn]
  v := fun _ _ => rfl
  l := fun n hn => by show (match inH lo n with | true => _ | false => _) = _; rw [inH_out hn]
  e := fun _ _ => rfl
  r := fun n hn => by show (match inH lo n with | true => _ | false => _) = _; rw [inH_out hn]

theorem bnd_of {α : Type} {s : List (Nat × α)} {f : α → Bool} (h : (s.all fun y => f y.2) = true) {n : Nat} {e : α} (hl : lkp n s = some e) : f e = true := List.all_eq_true.1 h _ (lkp_mem hl)
theorem out_lo {lo n : Nat} (h : Nat.ble 64 lo = true) (hn : n < 64) : out lo (lo + 64) n = true := by
  unfold out
  rw [Nat.ble_eq_true_of_le (show n + 1 ≤ lo by have := Nat.le_of_ble_eq_true h; omega)]; rfl

theorem sub1_ok {ν ν3' : Env G} {ρ ρ3' : Nat → Nat} {s : Mt} {lo : Nat} {fm : List Nat} (hb : bndAv s lo = true) (hlo : Nat.ble 64 lo = true) (hfm : Nat.ble fm.length 64 = true) (hag : Agree LO (LO + LO) (ν.tm s) ν3' (fun n => ρ (bN s n)) ρ3') :
    SubOK (sub1 s fm lo) (p1 fm) ν3' (ν.bk ν3' lo fm) ρ3' (rhoBk ρ ρ3' lo fm) := by
  have hag2 := bk_agree (ν := ν) (ν3 := ν3') (ρ := ρ) (ρ3 := ρ3') (lo := lo) (fm := fm)
  simp only [bndAv, Bool.and_eq_true] at hb
  obtain ⟨⟨⟨b1, b2⟩, b3⟩, b4⟩ := hb
  have hfresh : ∀ {n : Nat}, p0 n = false → p1 fm n = true → inH lo (lo + ixN n fm) = true ∧ fm.getD (lo + ixN n fm - lo) 0 = n := by
    intro n h0 h1
    have hm : n ∈ fm := by
      unfold p1 at h1
      rw [h0, Bool.false_or] at h1
      exact inL_mem h1
    have hg := ixN_get hm
    have hlt := (List.getElem?_eq_some_iff.1 hg).1
    have := Nat.le_of_ble_eq_true hfm
    refine ⟨inH_of (by omega), ?_⟩
    rw [Nat.add_sub_cancel_left, List.getD_eq_getElem?_getD, hg]; rfl
  have hlo' : ∀ {n : Nat}, p0 n = true → out lo (lo + 64) n = true := fun h => out_lo hlo (p0_lt h)
  have hLO : ∀ {n : Nat}, p0 n = true → out LO (LO + LO) n = true := fun h => out_LO (by have := p0_lt h; omega)
  refine ⟨hag.I.symm.trans rfl |>.symm ▸ rfl, fun n hn => ?_, fun n hn => ?_, fun n hn => ?_, fun n hn => ?_, fun n hn => ?_⟩
  · show (if p0 n then bI s n else SI.var (lo + ixN n fm)).den _ = _
    cases h0 : p0 n with
    | true =>
      simp only [if_true]
      rw [hag.i n (hLO h0)]
      show _ = (bI s n).den ν
      unfold bI
      cases hl : lkp n s.i with
      | none => exact hag2.i n (hlo' h0)
      | some e => exact SI.den_agree hag2 e (bnd_of b1 hl)
    | false =>
      obtain ⟨h1, h2⟩ := hfresh h0 hn
      simp only [Bool.false_eq_true, if_false]
      show (match inH lo (lo + ixN n fm) with | true => ν3'.i (fm.getD (lo + ixN n fm - lo) 0) | false => _) = _
      rw [h1, h2]
  · show (if p0 n then bL s n else SL.var (lo + ixN n fm)).den _ = _
    cases h0 : p0 n with
    | true =>
      simp only [if_true]
      rw [hag.l n (hLO h0)]
      show _ = (bL s n).den ν
      unfold bL
      cases hl : lkp n s.l with
      | none => exact hag2.l n (hlo' h0)
      | some e => exact SL.den_agree hag2 e (bnd_of b2 hl)
    | false =>
      obtain ⟨h1, h2⟩ := hfresh h0 hn
      simp only [Bool.false_eq_true, if_false]
      show (match inH lo (lo + ixN n fm) with | true => ν3'.l (fm.getD (lo + ixN n fm - lo) 0) | false => _) = _
      rw [h1, h2]
  · show (if p0 n then bG s n else SG.var (lo + ixN n fm)).den _ = _
    cases h0 : p0 n with
    | true =>
      simp only [if_true]
      rw [hag.g n (hLO h0)]
      show _ = (bG s n).den ν
      unfold bG
      cases hl : lkp n s.g with
      | none => exact hag2.g n (hlo' h0)
      | some e => exact SG.den_agree hag2 e (bnd_of b3 hl)
    | false =>
      obtain ⟨h1, h2⟩ := hfresh h0 hn
      simp only [Bool.false_eq_true, if_false]
      show (match inH lo (lo + ixN n fm) with | true => ν3'.g (fm.getD (lo + ixN n fm - lo) 0) | false => _) = _
      rw [h1, h2]
  · show (if p0 n then SB.var n else SB.var (lo + ixN n fm)).den _ = _
    cases h0 : p0 n with
    | true =>
      simp only [if_true]
      rw [hag.b n (hLO h0)]
      exact hag2.b n (hlo' h0)
    | false =>
      obtain ⟨h1, h2⟩ := hfresh h0 hn
      simp only [Bool.false_eq_true, if_false]
      show (match inH lo (lo + ixN n fm) with | true => ν3'.b (fm.getD (lo + ixN n fm - lo) 0) | false => _) = _
      rw [h1, h2]
  · show rhoBk ρ ρ3' lo fm (if p0 n then bN s n else lo + ixN n fm) = _
    cases h0 : p0 n with
    | true =>
      simp only [if_true]
      rw [hag.r n (hLO h0)]
      show _ = ρ (bN s n)
      unfold bN
      cases hl : lkp n s.b with
      | none => exact hag2.r n (hlo' h0)
      | some e => exact hag2.r e (bnd_of (f := fun y => out lo (lo + 64) y) b4 hl)
    | false =>
      obtain ⟨h1, h2⟩ := hfresh h0 hn
      simp only [Bool.false_eq_true, if_false]
      show (match inH lo (lo + ixN n fm) with | true => ρ3' (fm.getD (lo + ixN n fm - lo) 0) | false => _) = _
      rw [h1, h2]

theorem map_inj {α β : Type} {f : α → β} {l : List α} (h : (l.map f).Nodup) {x y : α} (hx : x ∈ l) (hy : y ∈ l) (e : f x = f y) : x = y := by
  induction l with
  | nil => cases hx
  | cons z r ih =>
    simp only [List.map_cons, List.nodup_cons] at h
    rcases List.mem_cons.1 hx with hx' | hx' <;> rcases List.mem_cons.1 hy with hy' | hy'
    · rw [hx', hy']
    · rw [← hx', e] at h
      exact absurd (List.mem_map.2 ⟨y, hy', rfl⟩) h.1
    · rw [← hy', ← e] at h
      exact absurd (List.mem_map.2 ⟨x, hx', rfl⟩) h.1
    · exact ih h.2 hx' hy'

/-- The heaps put together behind a call. -/
theorem HW.back {B : Base} {ν : Env G} {ρ : Nat → Nat} {hp : Heap} {w w' : World} (hw : HW B ν ρ hp w) {S : List Nat} {F : Nat → Nat → Prop} (f1 : ∀ n b, (n, b) ∈ hp → BlkDen B ν ρ w (F n) n b) (f2 : ∀ n b k, (n, b) ∈ hp → F n k → B.own k) (f3 : ∀ n b m c k, (n, b) ∈ hp → (m, c) ∈ hp → F n k → F m k → n = m)
    {ν3' ν' : Env G} {ρ3' ρ' : Nat → Nat} {chp own : Heap} (hown : own = chp.filter fun x => !isView x.2) (hc : HW (baseS w hp S F) ν3' ρ3' chp w') {lo : Nat} {σ : Sub} {p : Nat → Bool} (sok : SubOK σ p ν3' ν' ρ3' ρ') (hok : oknH p own = true) (hag : Agree lo (lo + 64) ν ν' ρ ρ')
    {rest : Heap} (hrest : rest = hp.filter fun x => !inL x.1 S) (hav' : hav lo (lo + 64) rest = true) (hnd : nodupB ((putAll σ own rest).map (·.1)) = true) (hinj : nodupB ((own.map fun x => σ.r x.1) ++ rest.map (·.1)) = true) : HW B ν' ρ' (putAll σ own rest) w' := by
  obtain ⟨F', g1, g2, g3⟩ := hc.foot
  have hown' : ∀ {x}, x ∈ own → x ∈ chp := fun h => by rw [hown] at h; exact (List.mem_filter.1 h).1
  have hrest' : ∀ {x}, x ∈ rest → x ∈ hp ∧ inL x.1 S = false := fun h => by
    rw [hrest] at h
    have := List.mem_filter.1 h
    exact ⟨this.1, by simpa using this.2⟩
  have hmine : ∀ k, (baseS w hp S F).own k → B.own k := fun k hk => by
    rcases hk with hk | ⟨n, b, h1, _, h3⟩
    · exact .inl (Nat.le_trans hw.size hk)
    · exact f2 n b k h1 h3
  have hapart : ∀ {n b k}, (n, b) ∈ rest → F n k → ¬ (baseS w hp S F).own k := fun {n b k} hm hk hc => by
    obtain ⟨hm1, hm2⟩ := hrest' hm
    rcases hc with hc | ⟨n', b', h1, h2, h3⟩
    · have := BlkDen.lt (f1 n b hm1) hk
      have hc : w.heap.size ≤ k := hc
      omega
    · have := f3 n b n' b' k hm1 h1 hk h3
      have hm2 : inL n S = false := hm2
      rw [this] at hm2
      rw [hm2] at h2; cases h2
  have hndr := nodupB_nd hnd
  have hij := List.nodup_append.1 (nodupB_nd hinj)
  have hne : ∀ {y : Nat × SBk} {m : Nat} {b : SBk}, y ∈ own → (m, b) ∈ rest → σ.r y.1 ≠ m := fun {y m b} hy hb => hij.2.2 _ (List.mem_map.2 ⟨y, hy, rfl⟩) _ (List.mem_map.2 ⟨_, hb, rfl⟩)
  have hsame : ∀ {y z : Nat × SBk}, y ∈ own → z ∈ own → σ.r y.1 = σ.r z.1 → y = z := fun hy hz e => map_inj (f := fun x : Nat × SBk => σ.r x.1) hij.1 hy hz e
  refine ⟨hc.os.trans hw.os, hc.tape.trans hw.tape, hc.output.trans hw.output, Nat.le_trans hw.size hc.size, fun k hk => ?_, hndr, fun m k => (∃ n b, (n, b) ∈ own ∧ σ.r n = m ∧ F' n k) ∨ ((∃ b, (m, b) ∈ rest) ∧ F m k), ?_, ?_, ?_⟩
  · rw [hc.kept k (fun h => hk (hmine k h))]
    exact hw.kept k hk
  · intro m c hm
    have key : ∀ {A C : Nat → Prop}, (∀ k, A k ↔ C k) → BlkDen B ν' ρ' w' A m c → BlkDen B ν' ρ' w' C m c := fun {A C} h hd => by
      have : A = C := funext fun k => propext (h k)
      rw [← this]; exact hd
    rcases putAll_mem.1 hm with ⟨⟨n, b⟩, hy, e⟩ | hr
    · cases e
      have hp' : p n = true ∧ b.okn p = true := by
        have := List.all_eq_true.1 hok _ hy
        simpa [Bool.and_eq_true] using this
      refine key (A := F' n) (fun k => ⟨fun h => .inl ⟨n, b, hy, rfl, h⟩, ?_⟩) (SBk.sb_den sok hp'.1 hp'.2 (g1 n b (hown' hy)))
      rintro (⟨n', b', hy', e, h⟩ | ⟨⟨b', hb'⟩, h⟩)
      · have := hsame hy' hy e
        cases this; exact h
      · exact absurd rfl (hne hy hb')
    · obtain ⟨hm1, hm2⟩ := hrest' hr
      have hav2 := hav_mem hav' m c hr
      refine key (A := F m) (fun k => ⟨fun h => .inr ⟨⟨c, hr⟩, h⟩, ?_⟩) (BlkDen.agree hag hav2.2 hav2.1 (BlkDen.world (fun k hk => ?_) (f1 m c hm1)))
      · rintro (⟨n', b', hy', e, h⟩ | ⟨_, h⟩)
        · exact absurd e (hne hy' hr)
        · exact h
      · exact hc.kept k (hapart hr hk)
  · rintro m c k hm (⟨n, b, hy, e, h⟩ | ⟨⟨b, hb⟩, h⟩)
    · exact hmine k (g2 n b k (hown' hy) h)
    · exact f2 m b k (hrest' hb).1 h
  · rintro m c m' c' k hm hm' (⟨n, b, hy, e, h⟩ | ⟨⟨b, hb⟩, h⟩) (⟨n', b', hy', e', h'⟩ | ⟨⟨b', hb'⟩, h'⟩)
    · have := g3 n b n' b' k (hown' hy) (hown' hy') h h'
      rw [← e, ← e', this]
    · exact absurd (g2 n b k (hown' hy) h) (hapart hb' h')
    · exact absurd (g2 n' b' k (hown' hy') h') (hapart hb h)
    · exact f3 m b m' b' k (hrest' hb).1 (hrest' hb').1 h h'

theorem HW.narrow {B : Base} {ν : Env G} {ρ : Nat → Nat} {w : World} {pc : PC} (hpc : pcDen ν pc) : ∀ {args : List SV} {us : Heap}, HW B ν ρ us w → HW B ν ρ (Go.Sy.narrow pc args us) w := by
  intro args
  induction args with
  | nil => intro us h; exact h
  | cons a r ih =>
    intro us h
    cases a with
    | sl b o n c =>
      unfold Go.Sy.narrow
      refine ih ?_
      split
      · rename_i k ov l hg
        split
        · rename_i i hi
          split
          · exact h
          · rename_i hc
            simp only [Bool.or_eq_true, not_or, Bool.not_eq_true', Bool.not_eq_false] at hc
            have h0 := SI.nn_den hpc i hc.2
            have ho := subOff_den (ν := ν) hi
            obtain ⟨F, f1, f2, f3⟩ := h.foot
            have hm := hget_mem hg
            have hd := f1 b _ hm
            simp only [BlkDen] at hd
            refine ⟨h.os, h.tape, h.output, h.size, h.kept, by rw [hset_fst]; exact h.nd, F, fun m c hmc => ?_, fun m c k hmc hk => ?_, fun m c m' c' k hmc hmc' hk hk' => ?_⟩
            · rcases mem_hset h.nd hmc with ⟨rfl, rfl⟩ | ⟨_, hmc⟩
              · simp only [BlkDen]
                refine ⟨hd.1, hd.2.1, by omega, fun j x hx => ?_⟩
                rw [SL.mkTake_den, SL.mkDrop_den] at hx
                have hx2 : ((l.den ν).drop (i.den ν).toNat)[j]? = some x := by
                  rw [List.getElem?_take] at hx
                  split at hx
                  · exact hx
                  · cases hx
                rw [List.getElem?_drop] at hx2
                have := hd.2.2.2 _ x hx2
                rw [ho, show (ov.den ν + i.den ν).toNat + j = (ov.den ν).toNat + ((i.den ν).toNat + j) by omega]
                exact this
              · exact f1 m c hmc
            · rcases mem_hset h.nd hmc with ⟨rfl, rfl⟩ | ⟨_, hmc⟩
              · exact absurd hk (hd.1 k)
              · exact f2 m c k hmc hk
            · rcases mem_hset h.nd hmc with ⟨rfl, rfl⟩ | ⟨_, hmc⟩
              · exact absurd hk (hd.1 k)
              · rcases mem_hset h.nd hmc' with ⟨rfl, rfl⟩ | ⟨_, hmc'⟩
                · exact absurd hk' (hd.1 k)
                · exact f3 m c m' c' k hmc hmc' hk hk'
        · exact h
      · exact h
    | _ => unfold Go.Sy.narrow; exact ih h

theorem tm_agree {ν : Env G} {s : Mt} {ρ : Nat → Nat} (hf : s.fine 0 = true) : Agree 0 64 ν (ν.tm s) ρ (fun n => ρ (bN s n)) := by
  unfold Mt.fine at hf
  simp only [Bool.and_eq_true] at hf
  obtain ⟨⟨⟨⟨⟨⟨⟨c1, c2⟩, c3⟩, c4⟩, c5⟩, c6⟩, c7⟩, c8⟩ := hf
  have big : ∀ {n : Nat}, out 0 64 n = true → 64 ≤ n := fun h => by
    unfold out at h
    simp only [Bool.or_eq_true] at h
    rcases h with h | h
    · have := Nat.le_of_ble_eq_true h; omega
    · exact Nat.le_of_ble_eq_true h
  have nolk : ∀ {α : Type} {l : List (Nat × α)} {n : Nat}, small l = true → 64 ≤ n → lkp n l = none := fun {α l n} h hn => lkp_none_of fun y hy e => by
    have := Nat.le_of_ble_eq_true (List.all_eq_true.1 h y hy)
    omega
  refine ⟨rfl, fun n hn => ?_, fun n hn => ?_, fun _ _ => rfl, fun _ _ => rfl, fun n hn => ?_, fun _ _ => rfl, fun n hn => ?_⟩
  · show (bG s n).den ν = _
    unfold bG; rw [nolk c7 (big hn)]; rfl
  · show (bI s n).den ν = _
    unfold bI; rw [nolk c5 (big hn)]; rfl
  · show (bL s n).den ν = _
    unfold bL; rw [nolk c6 (big hn)]; rfl
  · show ρ (bN s n) = _
    unfold bN
    rw [lkp_none_of fun y hy e => by
      have := inH_eq (List.all_eq_true.1 c8 y hy)
      have := big hn
      omega]

theorem HW.sublist {B : Base} {ν : Env G} {ρ : Nat → Nat} {hp hq : Heap} {w : World} (h : HW B ν ρ hp w) (hs : hq.Sublist hp) : HW B ν ρ hq w := by
  obtain ⟨F, h1, h2, h3⟩ := h.foot
  exact ⟨h.os, h.tape, h.output, h.size, h.kept, (hs.map _).nodup h.nd, F, fun n b hm => h1 n b (hs.subset hm), fun n b k hm => h2 n b k (hs.subset hm), fun n b m c k hm hm' => h3 n b m c k (hs.subset hm) (hs.subset hm')⟩
/-- The leaves may be said in other words. -/
theorem sum_okC (pr : PR P) (oo : OOK P O I) {f : Nat} {T : Tmpl} {ou0 ou : List CLeaf} (h : runX P O f T.args T.pc T.hp = some ou0) (hcov : ∀ c ∈ ou0, ∀ ν : Env G, ν.I = I → pcDen ν c.pc → ∃ c' ∈ ou, c'.bad = c.bad ∧ (∀ ρ, c'.v.den ν ρ = c.v.den ν ρ) ∧ c'.hp.Sublist c.hp ∧ pcDen ν c'.pc) {O' : Orac} (oo' : OOK P O' I) : OOK P (O'.withCall f (sumK P T ou)) I := by
  refine withCall_ok oo' ?_
  intro lo args pc hp cs hk sz hsz B ν ρ w R hI hpc hw hl
  unfold sumK at hk
  split at hk
  · cases hk
  rename_i S hS
  split at hk
  · cases hk
  rename_i s0 hs0
  split at hk
  · cases hk
  rename_i acc s hs
  split at hk
  · cases hk
  rename_i ow how
  simp only at hk
  split at hk
  case isFalse => cases hk
  rename_i hch
  simp only [Bool.and_eq_true] at hch
  obtain ⟨⟨⟨⟨⟨⟨⟨⟨k1, k2⟩, k3⟩, k4⟩, k5⟩, k6⟩, k7⟩, k8⟩, k9⟩ := hch
  simp only [Option.map_eq_some_iff] at hk
  obtain ⟨ls, hls, rfl⟩ := hk
  obtain ⟨F, f1, f2, f3⟩ := hw.foot
  have hvw : ∀ n b, (n, b) ∈ hp → inL n S = true → isView b = false := fun n b hm hi => by
    have := List.all_eq_true.1 k9 _ hm
    simpa [hi] using this
  have hbad : ∀ x ∈ ow, x.1.den ν ≠ x.2 := by
    refine prune_denG hpc fun x hx he => ?_
    have := (hl (bad1 pc x) (List.mem_append_right _ (List.mem_map.2 ⟨x, hx, rfl⟩)) ν ρ w (Agree.refl _ _ _ _) (pcDen_one' he hpc)).1
    cases this
  have hag := tm_agree (ν := ν) (ρ := ρ) k1
  have hag' : Agree 0 (0 + 64) ν (ν.tm s) ρ (fun n => ρ (bN s n)) := hag
  have hok : OkAll 0 0 0 ν (ν.tm s) := okAll_of (lo := 0) (sz := 0) (Agree.refl 0 (0 + 64) ν ρ) (Agree.refl 0 (0 + 0) ν ρ) hag'
  have hkr : KeepR 0 0 0 ρ (fun n => ρ (bN s n)) := fun n h1 _ => hag'.r n h1
  have hsub := sub0_ok ν s ρ
  -- what is owed
  unfold owes at how
  split at how
  case h_2 => cases how
  rename_i hqg
  split at how
  case isFalse => cases how
  rename_i hokn
  simp only [Bool.and_eq_true] at hokn
  obtain ⟨⟨⟨o0, o1⟩, o2⟩, o3⟩ := hokn
  cases how
  have hfine := k1
  unfold Mt.fine at hfine
  simp only [Bool.and_eq_true] at hfine
  obtain ⟨⟨⟨⟨⟨⟨⟨c1, c2⟩, c3⟩, c4⟩, c5⟩, c6⟩, c7⟩, c8⟩ := hfine
  have hsat : s.Sat 0 ν (ν.tm s) ρ (fun n => ρ (bN s n)) := by
    refine ⟨⟨fun y hy => ?_, fun y hy => (by
      have h1 := List.all_eq_true.1 o0 y hy
      simp only [Bool.and_eq_true] at h1
      have e := SL.beq_eq h1.2
      rw [← e]
      exact SL.sb_den hsub _ h1.1), fun y hy => ?_, fun y hy => (by rw [hqg] at hy; cases hy)⟩, fun y hy => ?_, fun y hy => ?_, fun y hy => ?_, fun y hy => ?_⟩
    · have h1 := hbad _ (List.mem_append_left _ (List.mem_map.2 ⟨y, hy, rfl⟩))
      simp only [SB.mkEq_den, ne_eq, Bool.not_eq_false, beq_iff_eq] at h1
      rw [h1]
      exact SI.sb_den hsub _ (List.all_eq_true.1 o1 y hy)
    · have h1 := hbad _ (List.mem_append_right _ (List.mem_append_left _ (List.mem_map.2 ⟨y, hy, rfl⟩)))
      simp only [SB.mkSame_den, ne_eq, Bool.not_eq_false, beq_iff_eq] at h1
      rw [h1]
      exact SB.sb_den hsub _ (List.all_eq_true.1 o2 y hy)
    · show ρ (bN s y.1) = ρ y.2
      unfold bN; rw [lkp_of (x := y.2) (nodupB_nd c4) hy]
    · show _ = (bI s (0 + y.1)).den ν
      unfold bI; rw [Nat.zero_add, lkp_of (x := y.2) (nodupB_nd c1) hy]
    · show _ = (bL s (0 + y.1)).den ν
      unfold bL; rw [Nat.zero_add, lkp_of (x := y.2) (nodupB_nd c2) hy]
    · show _ = (bG s (0 + y.1)).den ν
      unfold bG; rw [Nat.zero_add, lkp_of (x := y.2) (nodupB_nd c3) hy]
  have hpcT : pcDen (ν.tm s) T.pc := by
    intro c b hm
    have h1 := hbad _ (List.mem_append_right _ (List.mem_append_right _ (List.mem_map.2 ⟨(c, b), hm, rfl⟩)))
    have hc : c.okn pAll = true := by
      have : ∀ {q : PC}, pokn pAll q = true → (c, b) ∈ q → c.okn pAll = true := by
        intro q
        induction q with
        | nil => intro _ h; cases h
        | cons x r ih =>
          obtain ⟨c', b'⟩ := x
          intro hq h
          simp only [pokn, Bool.and_eq_true] at hq
          rcases List.mem_cons.1 h with h | h
          · cases h; exact hq.1
          · exact ih hq.2 h
      exact this o3 hm
    simp only at h1
    rw [SB.sb_den hsub c hc] at h1
    revert h1
    cases c.den (ν.tm s) <;> cases b <;> simp
  have hwS := HW.narrow hpc (args := args) (HW.seen (P := P) hw S f1 f2 f3 hvw)
  obtain ⟨hsat0, hwT⟩ := mHs_hw hok hkr hs k2 k3 (by
    refine List.all_eq_true.2 fun x hx => ?_
    rw [List.all_eq_true.1 k4 x hx]; rfl) hsat hwS
  obtain ⟨-, hargs⟩ := mVs_den hok hkr hs0 hsat0
  rw [hargs]
  refine runX_calls pr oo h (baseS w hp S F) (ν.tm s) _ w R hI hpcT hwT ?_
  intro c0 hc0 ν3' ρ3' w' hag3 hpc30
  have hI3 : ν3'.I = I := hag3.I.trans hI
  obtain ⟨c, hc, cv1, cv2, cv3, hpc3⟩ := hcov c0 hc0 ν3' hI3 hpc30
  rw [← cv1, ← cv2 ρ3']
  refine And.imp_right (fun hh hw3 => hh (hw3.sublist cv3)) (?_ : c.bad = false ∧ (HW (baseS w hp S F) ν3' ρ3' c.hp w' → R (.returned (c.v.den ν3' ρ3')) w'))
  obtain ⟨l1, hl1, hsub1⟩ := bindL_mem hls c hc
  have mono : ∀ {fm : List Nat}, Agree lo (lo + sz) ν (ν.bk ν3' lo fm) ρ (rhoBk ρ ρ3' lo fm) := fun {fm} => (bk_agree (ν := ν) (ν3 := ν3') (ρ := ρ) (ρ3 := ρ3') (lo := lo) (fm := fm)).mono (Nat.ble_eq_true_of_le (Nat.le_refl _)) (Nat.ble_eq_true_of_le (by omega))
  have hpcA : ∀ {fm : List Nat}, pcDen (ν.bk ν3' lo fm) pc := fun {fm} => pcDen_agree (bk_agree (ν := ν) (ν3 := ν3') (ρ := ρ) (ρ3 := ρ3') (lo := lo) (fm := fm)) k8 hpc
  unfold leafS at hl1
  split at hl1
  · rename_i hcb
    exfalso
    simp only at hl1
    split at hl1
    case isFalse => cases hl1
    rename_i hck
    simp only [Bool.and_eq_true] at hck
    have sok := sub1_ok (ρ := ρ) k5 k6 hck.2 hag3
    obtain ⟨q, hq, hqd⟩ := sbPC_den sok hpcA hck.1 hpc3
    rw [hq] at hl1
    cases hl1
    have := (hl _ (List.mem_append_left _ (hsub1 _ (List.mem_cons_self ..))) _ _ w' mono (pcDen_append hqd hpcA)).1
    cases this
  · rename_i hcb
    simp only at hl1
    split at hl1
    case isFalse => cases hl1
    rename_i hck
    simp only [Bool.and_eq_true] at hck
    obtain ⟨⟨⟨⟨d1, d2⟩, d3⟩, d4⟩, d5⟩ := hck
    have sok := sub1_ok (ρ := ρ) k5 k6 d4 hag3
    obtain ⟨q, hq, hqd⟩ := sbPC_den sok hpcA d1 hpc3
    rw [hq] at hl1
    simp only at hl1
    split at hl1
    case isFalse => cases hl1
    rename_i hnd
    simp only [Bool.and_eq_true] at hnd
    cases hl1
    have hfin := hl _ (List.mem_append_left _ (hsub1 _ (List.mem_cons_self ..))) _ _ w' mono (pcDen_append hqd hpcA)
    refine ⟨by simpa using hcb, fun hwc => ?_⟩
    have := hfin.2 (HW.back hw f1 f2 f3 rfl hwc sok d2 bk_agree rfl k7 hnd.1 hnd.2)
    simp only at this
    rwa [SV.sb_den sok _ d3] at this
theorem sum_ok (pr : PR P) (oo : OOK P O I) {f : Nat} {T : Tmpl} {ou : List CLeaf} (h : runX P O f T.args T.pc T.hp = some ou) {O' : Orac} (oo' : OOK P O' I) : OOK P (O'.withCall f (sumK P T ou)) I :=
  sum_okC pr oo h (fun c hc _ _ hp => ⟨c, hc, rfl, fun _ => rfl, List.Sublist.refl _, hp⟩) oo'
end
end Go.Sy
end

section
namespace Go.Sy
open Go Go.RowKit

/-- What a first round's end sees. -/
structure RF0 {G : Type} (ν ν2 : Env G) : Prop where
  I : ν2.I = ν.I
  io : ∀ m, m < 1000 → ν2.i m = ν.i m
  lo : ∀ m, m < 1000 → ν2.l m = ν.l m
  go : ∀ m, m < 1000 → ν2.g m = ν.g m
  bo : ∀ m, m < 1000 → ν2.b m = ν.b m

section
variable {P : Program} {G : Type} {O : Orac} {I : In G}
/-- A loop whose first round stands alone: it is run from the entry itself ('bads' tell what is known there); behind it the head's form. -/
theorem loopP_ok (pr : PR P) (oo : OOK P O I) {f s n it : Nat} {nm : Nat} (hnm : nm = nmAt s) (hs : Nat.ble s 100000 = true) (h1 : (loopsAt P f s).length = 1) {fr0 frI : List SV} {hp0 hpI : Heap} {pcI bads : PC} {tg : List Tgt} {sums : List SumT} {sums0 : List SumT} (d : G)
    (hbody : (codeX P O LO7 SZ7 f n it (loopAt P f s) frI pcI hpI).bind (sumsT P nm LO7 SZ7 (⟨.normal, frI, hpI, pcI⟩ :: tg)) = some sums)
    (hbody0 : (codeX P O LO7 SZ7 f n it (loopAt P f s) fr0 (bads.map fun x => (x.1, !x.2)) hp0).bind (sumsT P nm LO7 SZ7 (⟨.normal, frI, hpI, pcI⟩ :: tg)) = some sums0)
    (J : Env G → Vals G → Prop) (m : Env G → Vals G → Nat)
    (M : Env G → Nat)
    (first : ∀ t ∈ sums0, ∀ ν ν2, ν.I = I → (∀ y ∈ bads, y.1.den ν ≠ y.2) → RF0 ν ν2 → pcDen ν2 t.pc →
      match t.ex with
      | .normal => J ν (t.mt.vals d ν2) ∧ pcDen (ν.at nm (t.mt.vals d ν2)) pcI ∧ m ν (t.mt.vals d ν2) < M ν ∧ t.mt.Owed ν2 (ν.at nm (t.mt.vals d ν2))
      | .bad => False
      | _ => (∀ g, tg[t.k]? = some g → pcDen (ν.at nm (t.mt.vals d ν2)) g.pc) ∧ t.mt.Owed ν2 (ν.at nm (t.mt.vals d ν2)))
    (round : ∀ t ∈ sums, ∀ ν x ν2, ν.I = I → (∀ y ∈ bads, y.1.den ν ≠ y.2) → J ν x → pcDen (ν.at nm x) pcI → RF nm ν x ν2 → pcDen ν2 t.pc →
      match t.ex with
      | .normal => J ν (t.mt.vals d ν2) ∧ pcDen (ν.at nm (t.mt.vals d ν2)) pcI ∧ m ν (t.mt.vals d ν2) < m ν x ∧ t.mt.Owed ν2 (ν.at nm (t.mt.vals d ν2))
      | .bad => False
      | _ => (∀ g, tg[t.k]? = some g → pcDen (ν.at nm (t.mt.vals d ν2)) g.pc) ∧ t.mt.Owed ν2 (ν.at nm (t.mt.vals d ν2))) {O' : Orac} (oo' : OOK P O' I) :
    OOK P (O'.withLoop f s nm fr0 hp0 (mkM nm tg bads)) I := by
  have hsm : ∀ {m : Nat}, m < 1000 → out nm (nm + 64) m = true := fun h => by rw [hnm]; exact out_small h
  have hbg : ∀ {j : Nat}, j < 64 → out LO7 (LO7 + SZ7) (nm + j) = true := fun h => by rw [hnm]; exact out_nm7 hs h
  have hbs : ∀ {m : Nat}, m < 1000 → out LO7 (LO7 + SZ7) m = true := fun h => out_big7 h
  refine withLoop_ok oo' h1 ?_
  intro pc sub hsub hpart B ν ρ Q hQ hI hl act w hpc hf hw
  unfold mkM at hl
  cases hp : pav nm (nm + 64) pc with
  | false => rw [hp] at hl; exact (hl ⟨.bad, [], [], []⟩ (by simp) act w ⟨ν, ρ, Agree.refl _ _ _ _, pcDen_nil _, fun h => h.elim⟩).elim
  | true =>
    rw [hp] at hl
    simp only [if_true] at hl
    have hbad : ∀ x ∈ bads, x.1.den ν ≠ x.2 := prune_denG hpc fun x hx he =>
      (hl ⟨.bad, [], x :: pc, []⟩ (List.mem_append_right _ (List.mem_map.2 ⟨x, hx, rfl⟩)) act w ⟨ν, ρ, Agree.refl _ _ _ _, pcDen_one' he hpc, fun h => h.elim⟩).elim
    have hmono : ∀ {ν3 : Env G} {ρ3 : Nat → Nat}, Agree nm (nm + 64) ν ν3 ρ ρ3 → Agree nm (nm + sub) ν ν3 ρ ρ3 := fun h => h.mono (Nat.ble_eq_true_of_le (Nat.le_refl _)) (Nat.ble_eq_true_of_le (by omega))
    cases hb : codeX P O LO7 SZ7 f n it (loopAt P f s) frI pcI hpI with
    | none => rw [hb] at hbody; cases hbody
    | some lsB =>
      rw [hb] at hbody
      simp only [Option.bind_some] at hbody
      -- one way from what is there to the head's form
      have conv : ∀ {lo' sz' : Nat} {x1 : Vals G} {ν1 ν2 : Env G} {ρ1 ρ2 : Nat → Nat} {mt : Mt} {us ts : List SV} {hu ht : Heap}, Agree nm (nm + 64) ν ν1 ρ ρ1 → Agree lo' (lo' + sz') ν1 ν2 ρ1 ρ2 → mAll nm lo' sz' P us hu ts ht = some mt → mt.Owed ν2 (ν.at nm (mt.vals d ν2)) →
          ∃ ρ3, Agree nm (nm + 64) ν (ν.at nm (mt.vals d ν2)) ρ ρ3 ∧ (∀ act, FR ν2 ρ2 us act → FR (ν.at nm (mt.vals d ν2)) ρ3 ts act) ∧ ∀ w, HW B ν2 ρ2 hu w → HW B (ν.at nm (mt.vals d ν2)) ρ3 ht w := by
        intro lo' sz' x1 ν1 ν2 ρ1 ρ2 mt us ts hu ht a1 a2 hm ho
        have hfine := mAll_fine hm
        let ρ3 : Nat → Nat := fun m => match inH nm m, lkp m mt.b with | true, some n => ρ2 n | _, _ => ρ m
        have hr3 : ∀ n, out nm (nm + 64) n = true → ρ3 n = ρ n := fun n hn => by
          show (match inH nm n, lkp n mt.b with | true, some n => ρ2 n | _, _ => ρ n) = ρ n
          rw [inH_out hn]
        have a3 : Agree nm (nm + 64) ν (ν.at nm (mt.vals d ν2)) ρ ρ3 := at_agree hr3
        have hsat : mt.Sat nm ν2 (ν.at nm (mt.vals d ν2)) ρ2 ρ3 := mt_sat hfine (fun j hj => at_i hj) (fun j hj => at_l hj) (fun j hj => at_g hj) ho
        have kr : KeepR nm lo' sz' ρ2 ρ3 := fun n h1 h2 => by rw [hr3 n h1, a2.r n h2, a1.r n h1]
        obtain ⟨k1, k2⟩ := mAll_den (okAll_of a1 a2 a3) kr hm hsat
        exact ⟨ρ3, a3, k1, fun w => k2 B w⟩
      have leaf : ∀ {ν1 : Env G} {ρ1 : Nat → Nat} {x1 : Vals G} {bound : Nat} {L : Leaf} {t : SumT} {ν2 : Env G} {ρ2 : Nat → Nat} {act' : Act} {w' : World}, Agree nm (nm + 64) ν ν1 ρ ρ1 → Agree LO7 (LO7 + SZ7) ν1 ν2 ρ1 ρ2 → sumT P nm LO7 SZ7 (⟨.normal, frI, hpI, pcI⟩ :: tg) L = some t → (NotBad L.ex → FR ν2 ρ2 L.fr act' ∧ HW B ν2 ρ2 L.hp w') →
          (match t.ex with
            | .normal => J ν (t.mt.vals d ν2) ∧ pcDen (ν.at nm (t.mt.vals d ν2)) pcI ∧ m ν (t.mt.vals d ν2) < bound ∧ t.mt.Owed ν2 (ν.at nm (t.mt.vals d ν2))
            | .bad => False
            | _ => (∀ g, tg[t.k]? = some g → pcDen (ν.at nm (t.mt.vals d ν2)) g.pc) ∧ t.mt.Owed ν2 (ν.at nm (t.mt.vals d ν2))) →
          NormalTo (fun act w => ∃ x ρ1, Agree nm (nm + 64) ν (ν.at nm x) ρ ρ1 ∧ J ν x ∧ pcDen (ν.at nm x) pcI ∧ m ν x < bound ∧ FR (ν.at nm x) ρ1 frI act ∧ HW B (ν.at nm x) ρ1 hpI w) Q L.ex act' w' := by
        intro ν1 ρ1 x1 bound L t ν2 ρ2 act' w' k1 e1 hsum e3 hr
        unfold sumT at hsum
        cases hex : L.ex with
        | normal =>
          rw [hex] at hsum e3
          simp only [Option.map_eq_some_iff] at hsum
          obtain ⟨mt, hm, rfl⟩ := hsum
          obtain ⟨q1, q2, q3, q4⟩ := hr
          obtain ⟨hf2, hw2⟩ := e3 trivial
          obtain ⟨ρ3, b1, b2, b3⟩ := conv (x1 := x1) k1 e1 hm q4
          exact ⟨_, ρ3, b1, q1, q2, q3, b2 _ hf2, b3 _ hw2⟩
        | exit i =>
          rw [hex] at hsum e3
          simp only [Option.map_eq_some_iff] at hsum
          obtain ⟨⟨k, mt⟩, hfind, rfl⟩ := hsum
          obtain ⟨-, t', ht', m2, hm⟩ := findT_some hfind
          rw [Nat.sub_zero] at ht'
          have m1 := List.mem_of_getElem? ht'
          rw [hex] at m2
          obtain ⟨q2, q3⟩ := hr
          obtain ⟨hf2, hw2⟩ := e3 trivial
          obtain ⟨ρ3, b1, b2, b3⟩ := conv (x1 := x1) k1 e1 hm q3
          have := hl ⟨t'.ex, t'.fr, t'.pc ++ pc, t'.hp⟩ (List.mem_append_left _ (List.mem_map.2 ⟨t', List.mem_filter.2 ⟨m1, by rw [m2]; rfl⟩, rfl⟩)) act' w'
            ⟨_, ρ3, hmono b1, pcDen_append (q2 t' ht') (pcDen_agree b1 hp hpc), fun _ => ⟨b2 _ hf2, b3 _ hw2⟩⟩
          simp only [m2] at this
          exact this
        | ret =>
          rw [hex] at hsum e3
          simp only [Option.map_eq_some_iff] at hsum
          obtain ⟨⟨k, mt⟩, hfind, rfl⟩ := hsum
          obtain ⟨-, t', ht', m2, hm⟩ := findT_some hfind
          rw [Nat.sub_zero] at ht'
          have m1 := List.mem_of_getElem? ht'
          rw [hex] at m2
          obtain ⟨q2, q3⟩ := hr
          obtain ⟨hf2, hw2⟩ := e3 trivial
          obtain ⟨ρ3, b1, b2, b3⟩ := conv (x1 := x1) k1 e1 hm q3
          have := hl ⟨t'.ex, t'.fr, t'.pc ++ pc, t'.hp⟩ (List.mem_append_left _ (List.mem_map.2 ⟨t', List.mem_filter.2 ⟨m1, by rw [m2]; rfl⟩, rfl⟩)) act' w'
            ⟨_, ρ3, hmono b1, pcDen_append (q2 t' ht') (pcDen_agree b1 hp hpc), fun _ => ⟨b2 _ hf2, b3 _ hw2⟩⟩
          simp only [m2] at this
          exact this
        | bad =>
          rw [hex] at hsum
          simp only [Option.some.injEq] at hsum
          subst hsum
          exact hr.elim
      cases hb0 : codeX P O LO7 SZ7 f n it (loopAt P f s) fr0 (bads.map fun x => (x.1, !x.2)) hp0 with
      | none => rw [hb0] at hbody0; cases hbody0
      | some ls0 =>
      rw [hb0] at hbody0
      simp only [Option.bind_some] at hbody0
      have hpcE : pcDen ν (bads.map fun x => (x.1, !x.2)) := by
        intro c b hm
        obtain ⟨x, hx, e⟩ := List.mem_map.1 hm
        cases e
        have := hbad x hx
        revert this
        cases x.1.den ν <;> cases x.2 <;> simp
      refine wp_loop_ghost (fun k act w => (∃ x ρ1, Agree nm (nm + 64) ν (ν.at nm x) ρ ρ1 ∧ J ν x ∧ pcDen (ν.at nm x) pcI ∧ m ν x = k ∧ FR (ν.at nm x) ρ1 frI act ∧ HW B (ν.at nm x) ρ1 hpI w) ∨ (k = M ν ∧ FR ν ρ fr0 act ∧ HW B ν ρ hp0 w)) (M ν) (.inr ⟨rfl, hf, hw⟩) ?_
      rintro k act w (⟨x, ρ1, k1, k2, k3, k4, k5, k6⟩ | ⟨k4, k5, k6⟩)
      · refine x_code pr oo hb hpart B (ν.at nm x) ρ1 (Exit.then _ Q) (k1.I.trans hI) (fun ch a w hq => hQ ch a w hq) ?_ act w ⟨ν.at nm x, ρ1, Agree.refl _ _ _ _, k3, fun _ => ⟨k5, k6⟩⟩
        rintro L hL act' w' ⟨ν2, ρ2, e1, e2, e3⟩
        obtain ⟨t, ht, hsum⟩ := sumsT_mem hbody L hL
        have rf : RF nm ν x ν2 :=
          ⟨e1.I.trans k1.I, fun j hj => (e1.i _ (hbg hj)).trans (at_i hj), fun j hj => (e1.l _ (hbg hj)).trans (at_l hj), fun j hj => (e1.g _ (hbg hj)).trans (at_g hj),
            fun j hj => (e1.i _ (hbs hj)).trans (at_io (hsm hj)), fun j hj => (e1.l _ (hbs hj)).trans (at_lo (hsm hj)), fun j hj => (e1.g _ (hbs hj)).trans (at_go (hsm hj)), fun j hj => (e1.b _ (hbs hj))⟩
        have e2' : pcDen ν2 t.pc := by
          have : t.pc = L.pc := by
            unfold sumT at hsum
            simp only at hsum
            split at hsum
            · cases hsum; rfl
            · simp only [Option.map_eq_some_iff] at hsum
              obtain ⟨_, _, rfl⟩ := hsum
              rfl
            · simp only [Option.map_eq_some_iff] at hsum
              obtain ⟨_, _, rfl⟩ := hsum
              rfl
          rw [this]; exact e2
        have := leaf (x1 := x) k1 e1 hsum e3 (round t ht ν x ν2 hI hbad k2 k3 rf e2')
        cases hex : L.ex with
        | normal =>
          rw [hex] at this
          obtain ⟨x', ρ3, b1, b2, b3, b4, b5, b6⟩ := this
          exact ⟨m ν x', by omega, .inl ⟨x', ρ3, b1, b2, b3, rfl, b5, b6⟩⟩
        | exit i => rw [hex] at this; exact this
        | ret => rw [hex] at this; exact this
        | bad => rw [hex] at this; exact this
      · refine x_code pr oo hb0 hpart B ν ρ (Exit.then _ Q) hI (fun ch a w hq => hQ ch a w hq) ?_ act w ⟨ν, ρ, Agree.refl _ _ _ _, hpcE, fun _ => ⟨k5, k6⟩⟩
        rintro L hL act' w' ⟨ν2, ρ2, e1, e2, e3⟩
        obtain ⟨t, ht, hsum⟩ := sumsT_mem hbody0 L hL
        have rf : RF0 ν ν2 := ⟨e1.I, fun j hj => e1.i _ (hbs hj), fun j hj => e1.l _ (hbs hj), fun j hj => e1.g _ (hbs hj), fun j hj => e1.b _ (hbs hj)⟩
        have e2' : pcDen ν2 t.pc := by
          have : t.pc = L.pc := by
            unfold sumT at hsum
            simp only at hsum
            split at hsum
            · cases hsum; rfl
            · simp only [Option.map_eq_some_iff] at hsum
              obtain ⟨_, _, rfl⟩ := hsum
              rfl
            · simp only [Option.map_eq_some_iff] at hsum
              obtain ⟨_, _, rfl⟩ := hsum
              rfl
          rw [this]; exact e2
        have := leaf (x1 := ⟨fun _ => 0, fun _ => [], fun _ => d⟩) (Agree.refl _ _ ν ρ) e1 hsum e3 (first t ht ν ν2 hI hbad rf e2')
        cases hex : L.ex with
        | normal =>
          rw [hex] at this
          obtain ⟨x', ρ3, b1, b2, b3, b4, b5, b6⟩ := this
          exact ⟨m ν x', by omega, .inl ⟨x', ρ3, b1, b2, b3, rfl, b5, b6⟩⟩
        | exit i => rw [hex] at this; exact this
        | ret => rw [hex] at this; exact this
        | bad => rw [hex] at this; exact this
end

/-- The head's reading sees so itself. -/
theorem RF.self {G : Type} {ν : Env G} {nm s : Nat} {x : Vals G} (h : nm = nmAt s) : RF nm ν x (ν.at nm x) :=
  ⟨rfl, fun _ hj => at_i hj, fun _ hj => at_l hj, fun _ hj => at_g hj, fun m hm => at_io (by rw [h]; exact out_small hm), fun m hm => at_lo (by rw [h]; exact out_small hm), fun m hm => at_go (by rw [h]; exact out_small hm), fun _ _ => rfl⟩
theorem bads_cons {G : Type} {ν : Env G} {c : SB} {b : Bool} {q : PC} : (∀ x ∈ (c, b) :: q, x.1.den ν ≠ x.2) ↔ c.den ν = !b ∧ ∀ x ∈ q, x.1.den ν ≠ x.2 := by
  simp only [List.mem_cons, forall_eq_or_imp]
  constructor
  · rintro ⟨h1, h2⟩
    refine ⟨?_, h2⟩
    revert h1
    cases c.den ν <;> cases b <;> simp
  · rintro ⟨h1, h2⟩
    refine ⟨?_, h2⟩
    simp only [h1]
    cases b <;> simp
theorem bads_nil {G : Type} {ν : Env G} : (∀ x ∈ ([] : PC), x.1.den ν ≠ x.2) ↔ True := by simp
theorem lkp_nil {α : Type} (n : Nat) : lkp n ([] : List (Nat × α)) = none := rfl
theorem lkp_cons {α : Type} (n m : Nat) (x : α) (r : List (Nat × α)) : lkp n ((m, x) :: r) = if m = n then some x else lkp n r := by
  show (if Nat.beq m n then some x else lkp n r) = _
  by_cases h : m = n
  · subst h; simp
  · rw [if_neg h, if_neg (fun hb => h (Nat.eq_of_beq_eq_true hb))]
/-! ### heads -/
section
variable (P : Program) (nm : Nat)
/-- A slot's number is the head's j-th. -/
def hdI (t j : Nat) (L : Leaf) : Leaf := { L with fr := L.fr.set t (match fget L.fr t with | .int k _ => .int k (.var (nm + j)) | v => v) }
/-- A slot's slice: a row that may move, from its first cell on. -/
def hdR (t j : Nat) (L : Leaf) : Leaf := match fget L.fr t with
  | .sl b _ _ _ => match (hget b L.hp).bind (asRow P) with
    | some (k, _, _, ty) => { L with fr := L.fr.set t (.sl (nm + j) (.lit 0) (.len (.var (nm + j))) (.var (nm + j))), hp := hadd (nm + j) (.row k (.var (nm + j)) (.var (nm + j)) ty) (herase b L.hp) }
    | none => L
  | _ => L
/-- A slice that isn't there yet: of this kind, this type of elements. -/
def hdN (t j : Nat) (k : IntKind) (ty : Nat) (L : Leaf) : Leaf := { L with fr := L.fr.set t (.sl (nm + j) (.lit 0) (.len (.var (nm + j))) (.var (nm + j))), hp := hadd (nm + j) (.row k (.var (nm + j)) (.var (nm + j)) ty) L.hp }
/-- A row that stays: its list is the head's. -/
def hdL (b j : Nat) (L : Leaf) : Leaf := match (hget b L.hp).bind (asRow P) with
  | some (k, _, c, ty) => { L with hp := hset b (.row k (.var (nm + j)) c ty) L.hp }
  | none => L
def hdD (t : Nat) (L : Leaf) : Leaf := { L with fr := L.fr.set t .dead }
def hdEnd (L : Leaf) : Leaf := { L with fr := deadUndef L.fr }
def hdFrom (n : Nat) (L : Leaf) : Leaf := { L with fr := deadFrom n L.fr }
end
end Go.Sy
end
