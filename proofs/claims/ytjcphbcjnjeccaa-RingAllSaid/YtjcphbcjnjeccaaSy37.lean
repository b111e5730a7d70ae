import Derived.Test.YtjcphbcjnjeccaaSy36
set_option linter.unusedVariables false
set_option linter.unusedSimpArgs false
namespace Go.Sy
open Go Go.RowKit

structure Tmpl where
  args : List SV
  pc : PC
  hp : Heap
def bI (s : Mt) (n : Nat) : SI := match lkp n s.i with | some e => e | none => .var n
def bL (s : Mt) (n : Nat) : SL := match lkp n s.l with | some e => e | none => .var n
def bG (s : Mt) (n : Nat) : SG := match lkp n s.g with | some e => e | none => .var n
def bN (s : Mt) (n : Nat) : Nat := match lkp n s.b with | some m => m | none => n
def sub0 (s : Mt) : Sub := ⟨bI s, bL s, bG s, .var, bN s⟩
def p0 (n : Nat) : Bool := Nat.ble (n + 1) 64
def pAll (_ : Nat) : Bool := true
def sub1 (s : Mt) (fm : List Nat) (lo : Nat) : Sub :=
  ⟨fun n => if p0 n then bI s n else .var (lo + ixN n fm), fun n => if p0 n then bL s n else .var (lo + ixN n fm), fun n => if p0 n then bG s n else .var (lo + ixN n fm), fun n => if p0 n then .var n else .var (lo + ixN n fm),
   fun n => if p0 n then bN s n else lo + ixN n fm⟩
def p1 (fm : List Nat) (n : Nat) : Bool := p0 n || inL n fm
/-- What must not be, for the template to fit. -/
def owes (s : Mt) (pc : PC) : Option PC := match s.ql, s.qg with
  | [], [] => if s.qi.all (fun y => y.2.okn pAll) && s.qb.all (fun y => y.2.okn pAll) && pokn pAll pc then
      some ((s.qi.map fun y => (SB.mkEq y.1 (y.2.sb (sub0 s)), false)) ++ ((s.qb.map fun y => (SB.mkSame y.1 (y.2.sb (sub0 s)), false)) ++ pc.map fun x => (x.1.sb (sub0 s), !x.2))) else none
  | _, _ => none
def asmP (bs : PC) : PC := bs.map fun x => asm x.1 x.2
/-- The path of a leaf; 'none': it cannot be. -/
def sbPC (σ : Sub) (pcA : PC) : PC → Option PC
  | [] => some []
  | (c, b) :: r => match sbPC σ pcA r with
    | none => none
    | some q => match (c.sb σ).known pcA with
      | some v => if bBeq v b then some q else none
      | none => some (asm (c.sb σ) b :: q)
def putAll (σ : Sub) : Heap → Heap → Heap
  | [], h => h
  | (n, b) :: r, h => putAll σ r (hadd (σ.r n) (b.sb σ) h)
def oknH (p : Nat → Bool) (h : Heap) : Bool := h.all fun x => p x.1 && x.2.okn p
def leafS (s : Mt) (lo : Nat) (pcA : PC) (rest : Heap) (c : CLeaf) : Option (List CLeaf) :=
  if c.bad then
    let fm := pnms c.pc []
    if pokn (p1 fm) c.pc && Nat.ble fm.length 64 then match sbPC (sub1 s fm lo) pcA c.pc with
      | none => some []
      | some q => some [⟨true, .tup [], q ++ pcA, []⟩]
    else none
  else
    let own := c.hp.filter fun x => !isView x.2
    let fm := pnms c.pc (hnms own (c.v.nms []))
    if pokn (p1 fm) c.pc && oknH (p1 fm) own && c.v.okn (p1 fm) && Nat.ble fm.length 64 && nodupB (own.map (·.1)) then match sbPC (sub1 s fm lo) pcA c.pc with
      | none => some []
      | some q => let h := putAll (sub1 s fm lo) own rest
        if nodupB (h.map (·.1)) && nodupB ((own.map fun x => (sub1 s fm lo).r x.1) ++ rest.map (·.1)) then some [⟨false, c.v.sb (sub1 s fm lo), q ++ pcA, h⟩] else none
    else none
def bndAv (s : Mt) (lo : Nat) : Bool := s.i.all (fun y => y.2.av lo (lo + 64)) && s.l.all (fun y => y.2.av lo (lo + 64)) && s.g.all (fun y => y.2.av lo (lo + 64)) && s.b.all (fun y => out lo (lo + 64) y.2)
/-- What a slice leads to, of what can be read: its own part. -/
def narrow (pc : PC) : List SV → Heap → Heap
  | [], us => us
  | .sl b o n _ :: r, us => narrow pc r (match hget b us with
    | some (.view k ov l) => match subOff ov o with
      | some i => if (o.beq ov && (SI.mkLen l).beq n) || !(i.nn pc) then us else hset b (.view k o (SL.mkTake (SL.mkDrop l i) n)) us
      | none => us
    | _ => us)
  | _ :: r, us => narrow pc r us
def sumK (P : Program) (T : Tmpl) (ou : List CLeaf) (lo : Nat) (args : List SV) (pc : PC) (hp : Heap) : Option (List CLeaf) :=
  match handed P hp args T.args T.hp with
  | none => none
  | some S => match mVs 0 0 0 T.args args .none with
    | none => none
    | some s0 => match mHs 0 0 0 P (narrow pc args (seen P S hp)) (T.hp.length + 1) T.hp [] s0 with
      | none => none
      | some (acc, s) => match owes s T.pc with
        | none => none
        | some ow =>
          let rest := hp.filter fun x => !inL x.1 S
          if s.fine 0 && nodupB (T.hp.map (·.1)) && nodupB (acc.map (·.2)) && (T.hp.all fun x => inH 0 x.1) && bndAv s lo && Nat.ble 64 lo && hav lo (lo + 64) rest && pav lo (lo + 64) pc && (hp.all fun x => !(inL x.1 S && isView x.2)) then
            (bindL (leafS s lo pc rest) ou).map (· ++ (prune pc ow).map (bad1 pc))
          else none

section
variable {P : Program} {G : Type} {O : Orac} {I : In G}
theorem p0_lt {n : Nat} (h : p0 n = true) : n < 64 := Nat.le_of_ble_eq_true h
theorem ixN_get : ∀ {fm : List Nat} {n : Nat}, n ∈ fm → fm[ixN n fm]? = some n
  | [], n, h => by cases h
  | m :: r, n, h => by
    unfold ixN
    split
    · rename_i hb
      rw [Nat.eq_of_beq_eq_true hb]; rfl
    · rename_i hb
      rcases List.mem_cons.1 h with h | h
      · subst h; exact absurd (Nat.beq_refl n) hb
      · simpa using ixN_get h
theorem lkp_none_of {α : Type} {n : Nat} {l : List (Nat × α)} (h : ∀ y ∈ l, y.1 ≠ n) : lkp n l = none := by
  cases hl : lkp n l with
  | none => rfl
  | some x => exact absurd rfl (h _ (lkp_mem hl))

theorem putAll_mem {σ : Sub} {x : Nat × SBk} : ∀ {own h : Heap}, x ∈ putAll σ own h ↔ (∃ y ∈ own, x = (σ.r y.1, y.2.sb σ)) ∨ x ∈ h
  | [], h => by simp [putAll]
  | (n, b) :: r, h => by
    unfold putAll
    rw [putAll_mem, mem_hadd]
    constructor
    · rintro (⟨y, hy, e⟩ | e | e)
      · exact .inl ⟨y, List.mem_cons_of_mem _ hy, e⟩
      · exact .inl ⟨(n, b), List.mem_cons_self .., e⟩
      · exact .inr e
    · rintro (⟨y, hy, e⟩ | e)
      · rcases List.mem_cons.1 hy with rfl | hy
        · exact .inr (.inl e)
        · exact .inl ⟨y, hy, e⟩
      · exact .inr (.inr e)

theorem sbPC_den {σ : Sub} {p : Nat → Bool} {ν ν' : Env G} {ρ ρ' : Nat → Nat} (h : SubOK σ p ν ν' ρ ρ') {pcA : PC} (hA : pcDen ν' pcA) : ∀ {pc : PC}, pokn p pc = true → pcDen ν pc → ∃ q, sbPC σ pcA pc = some q ∧ pcDen ν' q
  | [], _, _ => ⟨[], rfl, pcDen_nil _⟩
  | (c, b) :: r, hp, hd => by
    simp only [pokn, Bool.and_eq_true] at hp
    obtain ⟨q, hq, hqd⟩ := sbPC_den h hA hp.2 (fun d y hm => hd d y (List.mem_cons_of_mem _ hm))
    have hc : (c.sb σ).den ν' = b := by rw [SB.sb_den h c hp.1]; exact hd c b (List.mem_cons_self ..)
    unfold sbPC
    rw [hq]
    simp only
    cases hk : (c.sb σ).known pcA with
    | none => exact ⟨_, rfl, pcDen_asm hc hqd⟩
    | some v =>
      have := SB.known_den hA hk
      rw [hc] at this
      subst this
      refine ⟨q, ?_, hqd⟩
      simp only
      rw [if_pos (by cases b <;> rfl)]

/-- The template's reading of a state. -/
def Env.tm (ν : Env G) (s : Mt) : Env G := { ν with i := fun n => (bI s n).den ν, l := fun n => (bL s n).den ν, g := fun n => (bG s n).den ν }
theorem sub0_ok (ν : Env G) (s : Mt) (ρ : Nat → Nat) : SubOK (sub0 s) pAll (ν.tm s) ν (fun n => ρ (bN s n)) ρ :=
  ⟨rfl, fun _ _ => rfl, fun _ _ => rfl, fun _ _ => rfl, fun _ _ => rfl, fun _ _ => rfl⟩

/-- The caller's reading behind a call: the new names' values. -/
def Env.bk (ν ν3 : Env G) (lo : Nat) (fm : List Nat) : Env G :=
  { ν with
    i := fun m => match inH lo m with | true => ν3.i (fm.getD (m - lo) 0) | false => ν.i m
    l := fun m => match inH lo m with | true => ν3.l (fm.getD (m - lo) 0) | false => ν.l m
    g := fun m => match inH lo m with | true => ν3.g (fm.getD (m - lo) 0) | false => ν.g m
    b := fun m => match inH lo m with | true => ν3.b (fm.getD (m - lo) 0) | false => ν.b m }
def rhoBk (ρ ρ3 : Nat → Nat) (lo : Nat) (fm : List Nat) : Nat → Nat := fun m => match inH lo m with | true => ρ3 (fm.getD (m - lo) 0) | false => ρ m
theorem bk_agree {ν ν3 : Env G} {ρ ρ3 : Nat → Nat} {lo : Nat} {fm : List Nat} : Agree lo (lo + 64) ν (ν.bk ν3 lo fm) ρ (rhoBk ρ ρ3 lo fm) where
  I := rfl
  g := fun n hn => by show (match inH lo n with | true => _ | false => _) = _; rw [inH_out hn]
  i := fun n hn => by show (match inH lo n with | true => _ | false => _) = _; rw [inH_out hn]
  b := fun n hn => by show (match inH lo n with | true => _ | false => _) = _; rw [inH_out hn]
  v := fun _ _ => rfl
  l := fun n hn => by show (match inH lo n with | true => _ | false => _) = _; rw [inH_out hn]
  e := fun _ _ => rfl
  r := fun n hn => by show (match inH lo n with | true => _ | false => _) = _; rw [inH_out hn]

theorem bnd_of {α : Type} {s : List (Nat × α)} {f : α → Bool} (h : (s.all fun y => f y.2) = true) {n : Nat} {e : α} (hl : lkp n s = some e) : f e = true := List.all_eq_true.1 h _ (lkp_mem hl)
theorem out_lo {lo n : Nat} (h : Nat.ble 64 lo = true) (hn : n < 64) : out lo (lo + 64) n = true := by
  unfold out
  rw [Nat.ble_eq_true_of_le (show n + 1 ≤ lo by have := Nat.le_of_ble_eq_true h; omega)]; rfl

theorem sub1_ok {ν ν3' : Env G} {ρ ρ3' : Nat → Nat} {s : Mt} {lo : Nat} {fm : List Nat} (hb : bndAv s lo = true) (hlo : Nat.ble 64 lo = true) (hfm : Nat.ble fm.length 64 = true) (hag : Agree LO (LO + LO) (ν.tm s) ν3' (fun n => ρ (bN s n)) ρ3') :
    SubOK (sub1 s fm lo) (p1 fm) ν3' (ν.bk ν3' lo fm) ρ3' (rhoBk ρ ρ3' lo fm) := by
  have hag2 := bk_agree (ν := ν) (ν3 := ν3') (ρ := ρ) (ρ3 := ρ3') (lo := lo) (fm := fm)
  simp only [bndAv, Bool.and_eq_true] at hb
  obtain ⟨⟨⟨b1, b2⟩, b3⟩, b4⟩ := hb
  have hfresh : ∀ {n : Nat}, p0 n = false → p1 fm n = true → inH lo (lo + ixN n fm) = true ∧ fm.getD (lo + ixN n fm - lo) 0 = n := by
    intro n h0 h1
    have hm : n ∈ fm := by
      unfold p1 at h1
      rw [h0, Bool.false_or] at h1
      exact inL_mem h1
    have hg := ixN_get hm
    have hlt := (List.getElem?_eq_some_iff.1 hg).1
    have := Nat.le_of_ble_eq_true hfm
    refine ⟨inH_of (by omega), ?_⟩
    rw [Nat.add_sub_cancel_left, List.getD_eq_getElem?_getD, hg]; rfl
  have hlo' : ∀ {n : Nat}, p0 n = true → out lo (lo + 64) n = true := fun h => out_lo hlo (p0_lt h)
  have hLO : ∀ {n : Nat}, p0 n = true → out LO (LO + LO) n = true := fun h => out_LO (by have := p0_lt h; omega)
  refine ⟨hag.I.symm.trans rfl |>.symm ▸ rfl, fun n hn => ?_, fun n hn => ?_, fun n hn => ?_, fun n hn => ?_, fun n hn => ?_⟩
  · show (if p0 n then bI s n else SI.var (lo + ixN n fm)).den _ = _
    cases h0 : p0 n with
    | true =>
      simp only [if_true]
      rw [hag.i n (hLO h0)]
      show _ = (bI s n).den ν
      unfold bI
      cases hl : lkp n s.i with
      | none => exact hag2.i n (hlo' h0)
      | some e => exact SI.den_agree hag2 e (bnd_of b1 hl)
    | false =>
      obtain ⟨h1, h2⟩ := hfresh h0 hn
      simp only [Bool.false_eq_true, if_false]
      show (match inH lo (lo + ixN n fm) with | true => ν3'.i (fm.getD (lo + ixN n fm - lo) 0) | false => _) = _
      rw [h1, h2]
  · show (if p0 n then bL s n else SL.var (lo + ixN n fm)).den _ = _
    cases h0 : p0 n with
    | true =>
      simp only [if_true]
      rw [hag.l n (hLO h0)]
      show _ = (bL s n).den ν
      unfold bL
      cases hl : lkp n s.l with
      | none => exact hag2.l n (hlo' h0)
      | some e => exact SL.den_agree hag2 e (bnd_of b2 hl)
    | false =>
      obtain ⟨h1, h2⟩ := hfresh h0 hn
      simp only [Bool.false_eq_true, if_false]
      show (match inH lo (lo + ixN n fm) with | true => ν3'.l (fm.getD (lo + ixN n fm - lo) 0) | false => _) = _
      rw [h1, h2]
  · show (if p0 n then bG s n else SG.var (lo + ixN n fm)).den _ = _
    cases h0 : p0 n with
    | true =>
      simp only [if_true]
      rw [hag.g n (hLO h0)]
      show _ = (bG s n).den ν
      unfold bG
      cases hl : lkp n s.g with
      | none => exact hag2.g n (hlo' h0)
      | some e => exact SG.den_agree hag2 e (bnd_of b3 hl)
    | false =>
      obtain ⟨h1, h2⟩ := hfresh h0 hn
      simp only [Bool.false_eq_true, if_false]
      show (match inH lo (lo + ixN n fm) with | true => ν3'.g (fm.getD (lo + ixN n fm - lo) 0) | false => _) = _
      rw [h1, h2]
  · show (if p0 n then SB.var n else SB.var (lo + ixN n fm)).den _ = _
    cases h0 : p0 n with
    | true =>
      simp only [if_true]
      rw [hag.b n (hLO h0)]
      exact hag2.b n (hlo' h0)
    | false =>
      obtain ⟨h1, h2⟩ := hfresh h0 hn
      simp only [Bool.false_eq_true, if_false]
      show (match inH lo (lo + ixN n fm) with | true => ν3'.b (fm.getD (lo + ixN n fm - lo) 0) | false => _) = _
      rw [h1, h2]
  · show rhoBk ρ ρ3' lo fm (if p0 n then bN s n else lo + ixN n fm) = _
    cases h0 : p0 n with
    | true =>
      simp only [if_true]
      rw [hag.r n (hLO h0)]
      show _ = ρ (bN s n)
      unfold bN
      cases hl : lkp n s.b with
      | none => exact hag2.r n (hlo' h0)
      | some e => exact hag2.r e (bnd_of (f := fun y => out lo (lo + 64) y) b4 hl)
    | false =>
      obtain ⟨h1, h2⟩ := hfresh h0 hn
      simp only [Bool.false_eq_true, if_false]
      show (match inH lo (lo + ixN n fm) with | true => ρ3' (fm.getD (lo + ixN n fm - lo) 0) | false => _) = _
      rw [h1, h2]

theorem map_inj {α β : Type} {f : α → β} {l : List α} (h : (l.map f).Nodup) {x y : α} (hx : x ∈ l) (hy : y ∈ l) (e : f x = f y) : x = y := by
  induction l with
  | nil => cases hx
  | cons z r ih =>
    simp only [List.map_cons, List.nodup_cons] at h
    rcases List.mem_cons.1 hx with hx' | hx' <;> rcases List.mem_cons.1 hy with hy' | hy'
    · rw [hx', hy']
    · rw [← hx', e] at h
      exact absurd (List.mem_map.2 ⟨y, hy', rfl⟩) h.1
    · rw [← hy', ← e] at h
      exact absurd (List.mem_map.2 ⟨x, hx', rfl⟩) h.1
    · exact ih h.2 hx' hy'

/-- The heaps put together behind a call. -/
theorem HW.back {B : Base} {ν : Env G} {ρ : Nat → Nat} {hp : Heap} {w w' : World} (hw : HW B ν ρ hp w) {S : List Nat} {F : Nat → Nat → Prop} (f1 : ∀ n b, (n, b) ∈ hp → BlkDen B ν ρ w (F n) n b) (f2 : ∀ n b k, (n, b) ∈ hp → F n k → B.own k) (f3 : ∀ n b m c k, (n, b) ∈ hp → (m, c) ∈ hp → F n k → F m k → n = m)
    {ν3' ν' : Env G} {ρ3' ρ' : Nat → Nat} {chp own : Heap} (hown : own = chp.filter fun x => !isView x.2) (hc : HW (baseS w hp S F) ν3' ρ3' chp w') {lo : Nat} {σ : Sub} {p : Nat → Bool} (sok : SubOK σ p ν3' ν' ρ3' ρ') (hok : oknH p own = true) (hag : Agree lo (lo + 64) ν ν' ρ ρ')
    {rest : Heap} (hrest : rest = hp.filter fun x => !inL x.1 S) (hav' : hav lo (lo + 64) rest = true) (hnd : nodupB ((putAll σ own rest).map (·.1)) = true) (hinj : nodupB ((own.map fun x => σ.r x.1) ++ rest.map (·.1)) = true) : HW B ν' ρ' (putAll σ own rest) w' := by
  obtain ⟨F', g1, g2, g3⟩ := hc.foot
  have hown' : ∀ {x}, x ∈ own → x ∈ chp := fun h => by rw [hown] at h; exact (List.mem_filter.1 h).1
  have hrest' : ∀ {x}, x ∈ rest → x ∈ hp ∧ inL x.1 S = false := fun h => by
    rw [hrest] at h
    have := List.mem_filter.1 h
    exact ⟨this.1, by simpa using this.2⟩
  have hmine : ∀ k, (baseS w hp S F).own k → B.own k := fun k hk => by
    rcases hk with hk | ⟨n, b, h1, _, h3⟩
    · exact .inl (Nat.le_trans hw.size hk)
    · exact f2 n b k h1 h3
  have hapart : ∀ {n b k}, (n, b) ∈ rest → F n k → ¬ (baseS w hp S F).own k := fun {n b k} hm hk hc => by
    obtain ⟨hm1, hm2⟩ := hrest' hm
    rcases hc with hc | ⟨n', b', h1, h2, h3⟩
    · have := BlkDen.lt (f1 n b hm1) hk
      have hc : w.heap.size ≤ k := hc
      omega
    · have := f3 n b n' b' k hm1 h1 hk h3
      have hm2 : inL n S = false := hm2
      rw [this] at hm2
      rw [hm2] at h2; cases h2
  have hndr := nodupB_nd hnd
  have hij := List.nodup_append.1 (nodupB_nd hinj)
  have hne : ∀ {y : Nat × SBk} {m : Nat} {b : SBk}, y ∈ own → (m, b) ∈ rest → σ.r y.1 ≠ m := fun {y m b} hy hb => hij.2.2 _ (List.mem_map.2 ⟨y, hy, rfl⟩) _ (List.mem_map.2 ⟨_, hb, rfl⟩)
  have hsame : ∀ {y z : Nat × SBk}, y ∈ own → z ∈ own → σ.r y.1 = σ.r z.1 → y = z := fun hy hz e => map_inj (f := fun x : Nat × SBk => σ.r x.1) hij.1 hy hz e
  refine ⟨hc.os.trans hw.os, hc.tape.trans hw.tape, hc.output.trans hw.output, Nat.le_trans hw.size hc.size, fun k hk => ?_, hndr, fun m k => (∃ n b, (n, b) ∈ own ∧ σ.r n = m ∧ F' n k) ∨ ((∃ b, (m, b) ∈ rest) ∧ F m k), ?_, ?_, ?_⟩
  · rw [hc.kept k (fun h => hk (hmine k h))]
    exact hw.kept k hk
  · intro m c hm
    have key : ∀ {A C : Nat → Prop}, (∀ k, A k ↔ C k) → BlkDen B ν' ρ' w' A m c → BlkDen B ν' ρ' w' C m c := fun {A C} h hd => by
      have : A = C := funext fun k => propext (h k)
      rw [← this]; exact hd
    rcases putAll_mem.1 hm with ⟨⟨n, b⟩, hy, e⟩ | hr
    · cases e
      have hp' : p n = true ∧ b.okn p = true := by
        have := List.all_eq_true.1 hok _ hy
        simpa [Bool.and_eq_true] using this
      refine key (A := F' n) (fun k => ⟨fun h => .inl ⟨n, b, hy, rfl, h⟩, ?_⟩) (SBk.sb_den sok hp'.1 hp'.2 (g1 n b (hown' hy)))
      rintro (⟨n', b', hy', e, h⟩ | ⟨⟨b', hb'⟩, h⟩)
      · have := hsame hy' hy e
        cases this; exact h
      · exact absurd rfl (hne hy hb')
    · obtain ⟨hm1, hm2⟩ := hrest' hr
      have hav2 := hav_mem hav' m c hr
      refine key (A := F m) (fun k => ⟨fun h => .inr ⟨⟨c, hr⟩, h⟩, ?_⟩) (BlkDen.agree hag hav2.2 hav2.1 (BlkDen.world (fun k hk => ?_) (f1 m c hm1)))
      · rintro (⟨n', b', hy', e, h⟩ | ⟨_, h⟩)
        · exact absurd e (hne hy' hr)
        · exact h
      · exact hc.kept k (hapart hr hk)
  · rintro m c k hm (⟨n, b, hy, e, h⟩ | ⟨⟨b, hb⟩, h⟩)
    · exact hmine k (g2 n b k (hown' hy) h)
    · exact f2 m b k (hrest' hb).1 h
  · rintro m c m' c' k hm hm' (⟨n, b, hy, e, h⟩ | ⟨⟨b, hb⟩, h⟩) (⟨n', b', hy', e', h'⟩ | ⟨⟨b', hb'⟩, h'⟩)
    · have := g3 n b n' b' k (hown' hy) (hown' hy') h h'
      rw [← e, ← e', this]
    · exact absurd (g2 n b k (hown' hy) h) (hapart hb' h')
    · exact absurd (g2 n' b' k (hown' hy') h') (hapart hb h)
    · exact f3 m b m' b' k (hrest' hb).1 (hrest' hb').1 h h'

theorem HW.narrow {B : Base} {ν : Env G} {ρ : Nat → Nat} {w : World} {pc : PC} (hpc : pcDen ν pc) : ∀ {args : List SV} {us : Heap}, HW B ν ρ us w → HW B ν ρ (Go.Sy.narrow pc args us) w := by
  intro args
  induction args with
  | nil => intro us h; exact h
  | cons a r ih =>
    intro us h
    cases a with
    | sl b o n c =>
      unfold Go.Sy.narrow
      refine ih ?_
      split
      · rename_i k ov l hg
        split
        · rename_i i hi
          split
          · exact h
          · rename_i hc
            simp only [Bool.or_eq_true, not_or, Bool.not_eq_true', Bool.not_eq_false] at hc
            have h0 := SI.nn_den hpc i hc.2
            have ho := subOff_den (ν := ν) hi
            obtain ⟨F, f1, f2, f3⟩ := h.foot
            have hm := hget_mem hg
            have hd := f1 b _ hm
            simp only [BlkDen] at hd
            refine ⟨h.os, h.tape, h.output, h.size, h.kept, by rw [hset_fst]; exact h.nd, F, fun m c hmc => ?_, fun m c k hmc hk => ?_, fun m c m' c' k hmc hmc' hk hk' => ?_⟩
            · rcases mem_hset h.nd hmc with ⟨rfl, rfl⟩ | ⟨_, hmc⟩
              · simp only [BlkDen]
                refine ⟨hd.1, hd.2.1, by omega, fun j x hx => ?_⟩
                rw [SL.mkTake_den, SL.mkDrop_den] at hx
                have hx2 : ((l.den ν).drop (i.den ν).toNat)[j]? = some x := by
                  rw [List.getElem?_take] at hx
                  split at hx
                  · exact hx
                  · cases hx
                rw [List.getElem?_drop] at hx2
                have := hd.2.2.2 _ x hx2
                rw [ho, show (ov.den ν + i.den ν).toNat + j = (ov.den ν).toNat + ((i.den ν).toNat + j) by omega]
                exact this
              · exact f1 m c hmc
            · rcases mem_hset h.nd hmc with ⟨rfl, rfl⟩ | ⟨_, hmc⟩
              · exact absurd hk (hd.1 k)
              · exact f2 m c k hmc hk
            · rcases mem_hset h.nd hmc with ⟨rfl, rfl⟩ | ⟨_, hmc⟩
              · exact absurd hk (hd.1 k)
              · rcases mem_hset h.nd hmc' with ⟨rfl, rfl⟩ | ⟨_, hmc'⟩
                · exact absurd hk' (hd.1 k)
                · exact f3 m c m' c' k hmc hmc' hk hk'
        · exact h
      · exact h
    | _ => unfold Go.Sy.narrow; exact ih h

theorem tm_agree {ν : Env G} {s : Mt} {ρ : Nat → Nat} (hf : s.fine 0 = true) : Agree 0 64 ν (ν.tm s) ρ (fun n => ρ (bN s n)) := by
  unfold Mt.fine at hf
  simp only [Bool.and_eq_true] at hf
  obtain ⟨⟨⟨⟨⟨⟨⟨c1, c2⟩, c3⟩, c4⟩, c5⟩, c6⟩, c7⟩, c8⟩ := hf
  have big : ∀ {n : Nat}, out 0 64 n = true → 64 ≤ n := fun h => by
    unfold out at h
    simp only [Bool.or_eq_true] at h
    rcases h with h | h
    · have := Nat.le_of_ble_eq_true h; omega
    · exact Nat.le_of_ble_eq_true h
  have nolk : ∀ {α : Type} {l : List (Nat × α)} {n : Nat}, small l = true → 64 ≤ n → lkp n l = none := fun {α l n} h hn => lkp_none_of fun y hy e => by
    have := Nat.le_of_ble_eq_true (List.all_eq_true.1 h y hy)
    omega
  refine ⟨rfl, fun n hn => ?_, fun n hn => ?_, fun _ _ => rfl, fun _ _ => rfl, fun n hn => ?_, fun _ _ => rfl, fun n hn => ?_⟩
  · show (bG s n).den ν = _
    unfold bG; rw [nolk c7 (big hn)]; rfl
  · show (bI s n).den ν = _
    unfold bI; rw [nolk c5 (big hn)]; rfl
  · show (bL s n).den ν = _
    unfold bL; rw [nolk c6 (big hn)]; rfl
  · show ρ (bN s n) = _
    unfold bN
    rw [lkp_none_of fun y hy e => by
      have := inH_eq (List.all_eq_true.1 c8 y hy)
      have := big hn
      omega]

theorem HW.sublist {B : Base} {ν : Env G} {ρ : Nat → Nat} {hp hq : Heap} {w : World} (h : HW B ν ρ hp w) (hs : hq.Sublist hp) : HW B ν ρ hq w := by
  obtain ⟨F, h1, h2, h3⟩ := h.foot
  exact ⟨h.os, h.tape, h.output, h.size, h.kept, (hs.map _).nodup h.nd, F, fun n b hm => h1 n b (hs.subset hm), fun n b k hm => h2 n b k (hs.subset hm), fun n b m c k hm hm' => h3 n b m c k (hs.subset hm) (hs.subset hm')⟩
/-- The leaves may be said in other words. -/
theorem sum_okC (pr : PR P) (oo : OOK P O I) {f : Nat} {T : Tmpl} {ou0 ou : List CLeaf} (h : runX P O f T.args T.pc T.hp = some ou0) (hcov : ∀ c ∈ ou0, ∀ ν : Env G, ν.I = I → pcDen ν c.pc → ∃ c' ∈ ou, c'.bad = c.bad ∧ (∀ ρ, c'.v.den ν ρ = c.v.den ν ρ) ∧ c'.hp.Sublist c.hp ∧ pcDen ν c'.pc) {O' : Orac} (oo' : OOK P O' I) : OOK P (O'.withCall f (sumK P T ou)) I := by
  refine withCall_ok oo' ?_
  intro lo args pc hp cs hk sz hsz B ν ρ w R hI hpc hw hl
  unfold sumK at hk
  split at hk
  · cases hk
  rename_i S hS
  split at hk
  · cases hk
  rename_i s0 hs0
  split at hk
  · cases hk
  rename_i acc s hs
  split at hk
  · cases hk
  rename_i ow how
  simp only at hk
  split at hk
  case isFalse => cases hk
  rename_i hch
  simp only [Bool.and_eq_true] at hch
  obtain ⟨⟨⟨⟨⟨⟨⟨⟨k1, k2⟩, k3⟩, k4⟩, k5⟩, k6⟩, k7⟩, k8⟩, k9⟩ := hch
  simp only [Option.map_eq_some_iff] at hk
  obtain ⟨ls, hls, rfl⟩ := hk
  obtain ⟨F, f1, f2, f3⟩ := hw.foot
  have hvw : ∀ n b, (n, b) ∈ hp → inL n S = true → isView b = false := fun n b hm hi => by
    have := List.all_eq_true.1 k9 _ hm
    simpa [hi] using this
  have hbad : ∀ x ∈ ow, x.1.den ν ≠ x.2 := by
    refine prune_denG hpc fun x hx he => ?_
    have := (hl (bad1 pc x) (List.mem_append_right _ (List.mem_map.2 ⟨x, hx, rfl⟩)) ν ρ w (Agree.refl _ _ _ _) (pcDen_one' he hpc)).1
    cases this
  have hag := tm_agree (ν := ν) (ρ := ρ) k1
  have hag' : Agree 0 (0 + 64) ν (ν.tm s) ρ (fun n => ρ (bN s n)) := hag
  have hok : OkAll 0 0 0 ν (ν.tm s) := okAll_of (lo := 0) (sz := 0) (Agree.refl 0 (0 + 64) ν ρ) (Agree.refl 0 (0 + 0) ν ρ) hag'
  have hkr : KeepR 0 0 0 ρ (fun n => ρ (bN s n)) := fun n h1 _ => hag'.r n h1
  have hsub := sub0_ok ν s ρ
  -- what is owed
  unfold owes at how
  split at how
  case h_2 => cases how
  rename_i hql hqg
  split at how
  case isFalse => cases how
  rename_i hokn
  simp only [Bool.and_eq_true] at hokn
  obtain ⟨⟨o1, o2⟩, o3⟩ := hokn
  cases how
  have hfine := k1
  unfold Mt.fine at hfine
  simp only [Bool.and_eq_true] at hfine
  obtain ⟨⟨⟨⟨⟨⟨⟨c1, c2⟩, c3⟩, c4⟩, c5⟩, c6⟩, c7⟩, c8⟩ := hfine
  have hsat : s.Sat 0 ν (ν.tm s) ρ (fun n => ρ (bN s n)) := by
    refine ⟨⟨fun y hy => ?_, fun y hy => (by rw [hql] at hy; cases hy), fun y hy => ?_, fun y hy => (by rw [hqg] at hy; cases hy)⟩, fun y hy => ?_, fun y hy => ?_, fun y hy => ?_, fun y hy => ?_⟩
    · have h1 := hbad _ (List.mem_append_left _ (List.mem_map.2 ⟨y, hy, rfl⟩))
      simp only [SB.mkEq_den, ne_eq, Bool.not_eq_false, beq_iff_eq] at h1
      rw [h1]
      exact SI.sb_den hsub _ (List.all_eq_true.1 o1 y hy)
    · have h1 := hbad _ (List.mem_append_right _ (List.mem_append_left _ (List.mem_map.2 ⟨y, hy, rfl⟩)))
      simp only [SB.mkSame_den, ne_eq, Bool.not_eq_false, beq_iff_eq] at h1
      rw [h1]
      exact SB.sb_den hsub _ (List.all_eq_true.1 o2 y hy)
    · show ρ (bN s y.1) = ρ y.2
      unfold bN; rw [lkp_of (x := y.2) (nodupB_nd c4) hy]
    · show _ = (bI s (0 + y.1)).den ν
      unfold bI; rw [Nat.zero_add, lkp_of (x := y.2) (nodupB_nd c1) hy]
    · show _ = (bL s (0 + y.1)).den ν
      unfold bL; rw [Nat.zero_add, lkp_of (x := y.2) (nodupB_nd c2) hy]
    · show _ = (bG s (0 + y.1)).den ν
      unfold bG; rw [Nat.zero_add, lkp_of (x := y.2) (nodupB_nd c3) hy]
  have hpcT : pcDen (ν.tm s) T.pc := by
    intro c b hm
    have h1 := hbad _ (List.mem_append_right _ (List.mem_append_right _ (List.mem_map.2 ⟨(c, b), hm, rfl⟩)))
    have hc : c.okn pAll = true := by
      have : ∀ {q : PC}, pokn pAll q = true → (c, b) ∈ q → c.okn pAll = true := by
        intro q
        induction q with
        | nil => intro _ h; cases h
        | cons x r ih =>
          obtain ⟨c', b'⟩ := x
          intro hq h
          simp only [pokn, Bool.and_eq_true] at hq
          rcases List.mem_cons.1 h with h | h
          · cases h; exact hq.1
          · exact ih hq.2 h
      exact this o3 hm
    simp only at h1
    rw [SB.sb_den hsub c hc] at h1
    revert h1
    cases c.den (ν.tm s) <;> cases b <;> simp
  have hwS := HW.narrow hpc (args := args) (HW.seen (P := P) hw S f1 f2 f3 hvw)
  obtain ⟨hsat0, hwT⟩ := mHs_hw hok hkr hs k2 k3 (by
    refine List.all_eq_true.2 fun x hx => ?_
    rw [List.all_eq_true.1 k4 x hx]; rfl) hsat hwS
  obtain ⟨-, hargs⟩ := mVs_den hok hkr hs0 hsat0
  rw [hargs]
  refine runX_calls pr oo h (baseS w hp S F) (ν.tm s) _ w R hI hpcT hwT ?_
  intro c0 hc0 ν3' ρ3' w' hag3 hpc30
  have hI3 : ν3'.I = I := hag3.I.trans hI
  obtain ⟨c, hc, cv1, cv2, cv3, hpc3⟩ := hcov c0 hc0 ν3' hI3 hpc30
  rw [← cv1, ← cv2 ρ3']
  refine And.imp_right (fun hh hw3 => hh (hw3.sublist cv3)) (?_ : c.bad = false ∧ (HW (baseS w hp S F) ν3' ρ3' c.hp w' → R (.returned (c.v.den ν3' ρ3')) w'))
  obtain ⟨l1, hl1, hsub1⟩ := bindL_mem hls c hc
  have mono : ∀ {fm : List Nat}, Agree lo (lo + sz) ν (ν.bk ν3' lo fm) ρ (rhoBk ρ ρ3' lo fm) := fun {fm} => (bk_agree (ν := ν) (ν3 := ν3') (ρ := ρ) (ρ3 := ρ3') (lo := lo) (fm := fm)).mono (Nat.ble_eq_true_of_le (Nat.le_refl _)) (Nat.ble_eq_true_of_le (by omega))
  have hpcA : ∀ {fm : List Nat}, pcDen (ν.bk ν3' lo fm) pc := fun {fm} => pcDen_agree (bk_agree (ν := ν) (ν3 := ν3') (ρ := ρ) (ρ3 := ρ3') (lo := lo) (fm := fm)) k8 hpc
  unfold leafS at hl1
  split at hl1
  · rename_i hcb
    exfalso
    simp only at hl1
    split at hl1
    case isFalse => cases hl1
    rename_i hck
    simp only [Bool.and_eq_true] at hck
    have sok := sub1_ok (ρ := ρ) k5 k6 hck.2 hag3
    obtain ⟨q, hq, hqd⟩ := sbPC_den sok hpcA hck.1 hpc3
    rw [hq] at hl1
    cases hl1
    have := (hl _ (List.mem_append_left _ (hsub1 _ (List.mem_cons_self ..))) _ _ w' mono (pcDen_append hqd hpcA)).1
    cases this
  · rename_i hcb
    simp only at hl1
    split at hl1
    case isFalse => cases hl1
    rename_i hck
    simp only [Bool.and_eq_true] at hck
    obtain ⟨⟨⟨⟨d1, d2⟩, d3⟩, d4⟩, d5⟩ := hck
    have sok := sub1_ok (ρ := ρ) k5 k6 d4 hag3
    obtain ⟨q, hq, hqd⟩ := sbPC_den sok hpcA d1 hpc3
    rw [hq] at hl1
    simp only at hl1
    split at hl1
    case isFalse => cases hl1
    rename_i hnd
    simp only [Bool.and_eq_true] at hnd
    cases hl1
    have hfin := hl _ (List.mem_append_left _ (hsub1 _ (List.mem_cons_self ..))) _ _ w' mono (pcDen_append hqd hpcA)
    refine ⟨by simpa using hcb, fun hwc => ?_⟩
    have := hfin.2 (HW.back hw f1 f2 f3 rfl hwc sok d2 bk_agree rfl k7 hnd.1 hnd.2)
    simp only at this
    rwa [SV.sb_den sok _ d3] at this
theorem sum_ok (pr : PR P) (oo : OOK P O I) {f : Nat} {T : Tmpl} {ou : List CLeaf} (h : runX P O f T.args T.pc T.hp = some ou) {O' : Orac} (oo' : OOK P O' I) : OOK P (O'.withCall f (sumK P T ou)) I :=
  sum_okC pr oo h (fun c hc _ _ hp => ⟨c, hc, rfl, fun _ => rfl, List.Sublist.refl _, hp⟩) oo'
end
end Go.Sy
