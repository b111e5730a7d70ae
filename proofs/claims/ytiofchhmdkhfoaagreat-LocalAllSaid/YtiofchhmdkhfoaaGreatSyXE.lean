/- Texts of one library, in one file. -/
import Derived.Test.YtiofchhmdkhfoaaGreatSyXD
import Derived.Test.YtiofchhmdkhfoaaGreatSyXC
import Derived.Deep.Slices
set_option linter.unusedVariables false
set_option linter.unusedSimpArgs false

section
namespace Go.Sy
open Go Go.RowKit

/-! ### one heap from another: the rows whose lists part; blocks that are left out -/
def diffB (ok : SBk → Bool) (b c : SBk) : Option (List (SL × SL)) :=
  if b.beq c && ok b then some [] else match b, c with
  | .row k l e t, .row k' l' e' t' => if kBeq k k' && e.beq e' && Nat.beq t t' && ok (.row k .nil e t) then some [(l, l')] else none
  | _, _ => none
def diffH (okn : Nat → Bool) (ok : SBk → Bool) : Heap → Heap → Option (List (SL × SL))
  | _, [] => some []
  | [], _ :: _ => none
  | (n, b) :: us, (m, c) :: vs => if Nat.beq n m then (if okn n then (match diffB ok b c, diffH okn ok us vs with | some x, some y => some (x ++ y) | _, _ => none) else none) else diffH okn ok us ((m, c) :: vs)

section
variable {G : Type}

theorem diffB_den {ok : SBk → Bool} {B : Base} {ν ν' : Env G} {ρ ρ' : Nat → Nat} {n : Nat} (hn : ρ' n = ρ n) (hok : ∀ b, ok b = true → ∀ w F, BlkDen B ν ρ w F n b → BlkDen B ν' ρ' w F n b) (hsi : ∀ k e t, ok (.row k .nil e t) = true → e.den ν = e.den ν') {b c : SBk} {l : List (SL × SL)}
    (h : diffB ok b c = some l) (hl : ∀ y ∈ l, y.1.den ν = y.2.den ν') {w : World} {F : Nat → Prop} (hd : BlkDen B ν ρ w F n b) : BlkDen B ν' ρ' w F n c := by
  unfold diffB at h
  split at h
  · rename_i hb
    simp only [Bool.and_eq_true] at hb
    have := SBk.beq_eq hb.1
    subst this
    exact hok b hb.2 w F hd
  · split at h
    · split at h
      · rename_i hb
        simp only [Bool.and_eq_true] at hb
        cases h
        have e1 := kBeq_eq hb.1.1.1
        have e2 := SI.beq_eq hb.1.1.2
        have e3 := Nat.eq_of_beq_eq_true hb.1.2
        subst e1 e2 e3
        have h4 := hsi _ _ _ hb.2
        have h5 := hl (_, _) (List.mem_singleton.2 rfl)
        simp only [BlkDen] at *
        rw [hn, ← h4, ← h5]
        exact hd
      · cases h
    · cases h

theorem diffH_den {okn : Nat → Bool} {ok : SBk → Bool} {B : Base} {ν ν' : Env G} {ρ ρ' : Nat → Nat} (hn : ∀ n, okn n = true → ρ' n = ρ n) (hok : ∀ n b, okn n = true → ok b = true → ∀ w F, BlkDen B ν ρ w F n b → BlkDen B ν' ρ' w F n b) (hsi : ∀ k e t, ok (.row k .nil e t) = true → e.den ν = e.den ν') : ∀ {us vs : Heap} {l : List (SL × SL)},
    diffH okn ok us vs = some l → (∀ y ∈ l, y.1.den ν = y.2.den ν') → ((vs.map (·.1)).Sublist (us.map (·.1))) ∧ ∀ m c, (m, c) ∈ vs → ∃ b, (m, b) ∈ us ∧ ∀ w F, BlkDen B ν ρ w F m b → BlkDen B ν' ρ' w F m c
  | us, [], _, _, _ => ⟨by simp, fun m c h => by cases h⟩
  | [], _ :: _, l, h, _ => by simp [diffH] at h
  | (n, b) :: us, (m, c) :: vs, l, h, hl => by
    unfold diffH at h
    split at h
    · rename_i hnm
      have hnm := Nat.eq_of_beq_eq_true hnm
      subst hnm
      split at h
      · rename_i hokn
        split at h
        · rename_i x y hx hy
          cases h
          obtain ⟨e1, e2⟩ := diffH_den hn hok hsi hy (fun z hz => hl z (List.mem_append_right _ hz))
          refine ⟨by simpa using e1, fun k d hk => ?_⟩
          rcases List.mem_cons.1 hk with hk | hk
          · cases hk
            exact ⟨b, by simp, fun w F hd => diffB_den (hn _ hokn) (fun b' hb' => hok _ b' hokn hb') hsi hx (fun z hz => hl z (List.mem_append_left _ hz)) hd⟩
          · obtain ⟨b', hb', h2⟩ := e2 k d hk
            exact ⟨b', by simp [hb'], h2⟩
        · cases h
      · cases h
    · obtain ⟨e1, e2⟩ := diffH_den hn hok hsi h hl
      refine ⟨by simpa using List.Sublist.cons n e1, fun k d hk => ?_⟩
      obtain ⟨b', hb', h2⟩ := e2 k d hk
      exact ⟨b', by simp [hb'], h2⟩

theorem HW.diff {okn : Nat → Bool} {ok : SBk → Bool} {B : Base} {ν ν' : Env G} {ρ ρ' : Nat → Nat} (hn : ∀ n, okn n = true → ρ' n = ρ n) (hok : ∀ n b, okn n = true → ok b = true → ∀ w F, BlkDen B ν ρ w F n b → BlkDen B ν' ρ' w F n b) (hsi : ∀ k e t, ok (.row k .nil e t) = true → e.den ν = e.den ν') {us vs : Heap} {l : List (SL × SL)}
    (h : diffH okn ok us vs = some l) (hl : ∀ y ∈ l, y.1.den ν = y.2.den ν') {w : World} (hw : HW B ν ρ us w) : HW B ν' ρ' vs w := by
  obtain ⟨e1, e2⟩ := diffH_den (B := B) hn hok hsi h hl
  obtain ⟨F, h1, h2, h3⟩ := hw.foot
  refine ⟨hw.os, hw.tape, hw.output, hw.size, hw.kept, e1.nodup hw.nd, F, fun n c hm => ?_, fun n c k hm hk => ?_, fun n c m d k hm hm' hk hk' => ?_⟩
  · obtain ⟨b, hb, h4⟩ := e2 n c hm
    exact h4 w _ (h1 n b hb)
  · obtain ⟨b, hb, _⟩ := e2 n c hm
    exact h2 n b k hb hk
  · obtain ⟨b, hb, _⟩ := e2 n c hm
    obtain ⟨b', hb', _⟩ := e2 m d hm'
    exact h3 n b m b' k hb hb' hk hk'

/-! ### loops that change rows -/
structure Sum where
  ex : SEx
  ds : List (SV × SV)
  ls : List (SL × SL)
  pc : PC
/-- How a loop is left: the frame, the heap. -/
structure Tgt where
  ex : SEx
  fr : List SV
  hp : Heap
  pc : PC
def exBeq : SEx → SEx → Bool
  | .normal, .normal => true
  | .exit i, .exit j => Nat.beq i j
  | .ret, .ret => true
  | _, _ => false
theorem exBeq_eq : ∀ {a b : SEx}, exBeq a b = true → a = b := by
  intro a b h
  cases a <;> cases b <;> simp_all [exBeq]
def tgtOf (e : SEx) : List Tgt → Option Tgt
  | [] => none
  | t :: r => if exBeq t.ex e then some t else tgtOf e r
theorem tgtOf_mem {e : SEx} : ∀ {l : List Tgt} {t : Tgt}, tgtOf e l = some t → t ∈ l ∧ t.ex = e
  | [], t, h => by simp [tgtOf] at h
  | u :: r, t, h => by
    unfold tgtOf at h
    split at h
    · rename_i hb
      cases h
      exact ⟨by simp, exBeq_eq hb⟩
    · obtain ⟨h1, h2⟩ := tgtOf_mem h
      exact ⟨by simp [h1], h2⟩

def okN (nm lo sz : Nat) (n : Nat) : Bool := out nm (nm + 64) n && out lo (lo + sz) n
def okB (nm lo sz : Nat) (b : SBk) : Bool := b.av nm (nm + 64) && b.av lo (lo + sz)
def sumM (nm lo sz : Nat) (tg : List Tgt) (L : Leaf) : Option Sum :=
  match L.ex with
  | .bad => some ⟨.bad, [], [], L.pc⟩
  | ex => match tgtOf ex tg with
    | none => none
    | some t => match diffX (okNames nm 64 lo sz) L.fr t.fr, diffH (okN nm lo sz) (okB nm lo sz) L.hp t.hp with
      | some d, some l => some ⟨ex, d, l, L.pc⟩
      | _, _ => none
def sumsM (nm lo sz : Nat) (tg : List Tgt) : List Leaf → Option (List Sum)
  | [] => some []
  | L :: r => match sumM nm lo sz tg L, sumsM nm lo sz tg r with
    | some s, some l => some (s :: l)
    | _, _ => none
theorem sumsM_mem {nm lo sz : Nat} {tg : List Tgt} : ∀ {ls : List Leaf} {l : List Sum}, sumsM nm lo sz tg ls = some l → ∀ L ∈ ls, ∃ s ∈ l, sumM nm lo sz tg L = some s
  | [], _, _, L, hL => by cases hL
  | M :: r, l, h, L, hL => by
    unfold sumsM at h
    split at h
    · rename_i s l' hs hl
      cases h
      rcases List.mem_cons.1 hL with rfl | hL
      · exact ⟨s, by simp, hs⟩
      · obtain ⟨s', hs', he⟩ := sumsM_mem hl L hL
        exact ⟨s', by simp [hs'], he⟩
    · cases h

/-- What is owed and not known. -/
def prune (pc bs : PC) : PC := bs.filter fun x => match x.1.known pc with
  | some v => bBeq v x.2
  | none => true
theorem prune_denG {G : Type} {ν : Env G} {pc bs : PC} (hpc : pcDen ν pc) (h : ∀ x ∈ prune pc bs, x.1.den ν ≠ x.2) : ∀ x ∈ bs, x.1.den ν ≠ x.2 := by
  intro x hx
  by_cases hm : x ∈ prune pc bs
  · exact h x hm
  · unfold prune at hm
    have : (match x.1.known pc with | some v => bBeq v x.2 | none => true) = false := by
      cases hb : (match x.1.known pc with | some v => bBeq v x.2 | none => true) with
      | false => rfl
      | true => exact absurd (List.mem_filter.2 ⟨hx, hb⟩) hm
    cases hk : x.1.known pc with
    | none => rw [hk] at this; cases this
    | some v =>
      rw [hk] at this
      have hv := SB.known_den hpc hk
      intro he
      rw [hv] at he
      rw [he] at this
      have hr : bBeq x.2 x.2 = true := by cases x.2 <;> rfl
      exact Bool.noConfusion (this.symm.trans hr)
/-- The leaves of a loop: as it is left; what must not be. -/
def mkM (nm : Nat) (tg : List Tgt) (bads : PC) (pc : PC) : List Leaf :=
  if pav nm (nm + 64) pc then (tg.filter fun t => !exBeq t.ex .normal).map (fun t => ⟨t.ex, t.fr, t.pc ++ pc, t.hp⟩) ++ (prune pc bads).map (fun c => ⟨.bad, [], c :: pc, []⟩) else [⟨.bad, [], [], []⟩]

theorem pcDen_one' {ν : Env G} {c : SB} {b : Bool} {q : PC} (h : c.den ν = b) (hq : pcDen ν q) : pcDen ν ((c, b) :: q) := fun d x hm => by
  rcases List.mem_cons.1 hm with hm | hm
  · cases hm; exact h
  · exact hq d x hm

section
variable {P : Program} {O : Orac} {I : In G}

theorem loopM_ok (pr : PR P) (oo : OOK P O I) {f s nm lo sz n it : Nat} (h1 : (loopsAt P f s).length = 1) {fr0 frI : List SV} {hp0 hpI : Heap} {pcI bads : PC} {tg : List Tgt} {sums : List Sum} {start : List (SV × SV)} {startL : List (SL × SL)}
    (hbody : (codeX P O lo sz f n it (loopAt P f s) frI pcI hpI).bind (sumsM nm lo sz (⟨.normal, frI, hpI, pcI⟩ :: tg)) = some sums)
    (hst : diffX (fun v => v.av nm (nm + 64)) fr0 frI = some start) (hsl : diffH (fun m => out nm (nm + 64) m) (fun b => b.av nm (nm + 64)) hp0 hpI = some startL)
    (J : Env G → Env G → Prop) (m : Env G → Env G → Nat)
    (hstart : ∀ ν ρ, ν.I = I → (∀ x ∈ bads, x.1.den ν ≠ x.2) → ∃ ν1, Agree nm (nm + 64) ν ν1 ρ ρ ∧ J ν ν1 ∧ pcDen ν1 pcI ∧ (∀ y ∈ start, y.1.den ν ρ = y.2.den ν1 ρ) ∧ ∀ y ∈ startL, y.1.den ν = y.2.den ν1)
    (round : ∀ s ∈ sums, ∀ ν ρ ν1 ν2 ρ2, ν.I = I → (∀ x ∈ bads, x.1.den ν ≠ x.2) → Agree nm (nm + 64) ν ν1 ρ ρ → J ν ν1 → pcDen ν1 pcI → Agree lo (lo + sz) ν1 ν2 ρ ρ2 → pcDen ν2 s.pc →
      match s.ex with
      | .normal => ∃ ν3, Agree nm (nm + 64) ν ν3 ρ ρ ∧ J ν ν3 ∧ pcDen ν3 pcI ∧ m ν ν3 < m ν ν1 ∧ (∀ y ∈ s.ds, y.1.den ν2 ρ2 = y.2.den ν3 ρ) ∧ ∀ y ∈ s.ls, y.1.den ν2 = y.2.den ν3
      | .bad => False
      | ex => ∃ ν3, Agree nm (nm + 64) ν ν3 ρ ρ ∧ (∀ t ∈ tg, t.ex = ex → pcDen ν3 t.pc) ∧ (∀ y ∈ s.ds, y.1.den ν2 ρ2 = y.2.den ν3 ρ) ∧ ∀ y ∈ s.ls, y.1.den ν2 = y.2.den ν3) {O' : Orac} (oo' : OOK P O' I) :
    OOK P (O'.withLoop f s nm fr0 hp0 (mkM nm tg bads)) I := by
  refine withLoop_ok oo' h1 ?_
  intro pc sub hsub hpart B ν ρ Q hQ hI hl act w hpc hf hw
  unfold mkM at hl
  cases hp : pav nm (nm + 64) pc with
  | false => rw [hp] at hl; exact (hl ⟨.bad, [], [], []⟩ (by simp) act w ⟨ν, ρ, Agree.refl _ _ _ _, pcDen_nil _, fun h => h.elim⟩).elim
  | true =>
    rw [hp] at hl
    simp only [if_true] at hl
    have hbad : ∀ x ∈ bads, x.1.den ν ≠ x.2 := prune_denG hpc fun x hx he =>
      (hl ⟨.bad, [], x :: pc, []⟩ (List.mem_append_right _ (List.mem_map.2 ⟨x, hx, rfl⟩)) act w ⟨ν, ρ, Agree.refl _ _ _ _, pcDen_one' he hpc, fun h => h.elim⟩).elim
    have hmono : ∀ {ν3 : Env G}, Agree nm (nm + 64) ν ν3 ρ ρ → Agree nm (nm + sub) ν ν3 ρ ρ := fun h => h.mono (Nat.ble_eq_true_of_le (Nat.le_refl _)) (Nat.ble_eq_true_of_le (by omega))
    cases hb : codeX P O lo sz f n it (loopAt P f s) frI pcI hpI with
    | none => rw [hb] at hbody; cases hbody
    | some lsB =>
      rw [hb] at hbody
      simp only [Option.bind_some] at hbody
      obtain ⟨ν0, g1, g2, g3, g4, g5⟩ := hstart ν ρ hI hbad
      have hnames : ∀ {ν1 ν2 ν3 : Env G} {ρ2 : Nat → Nat}, Agree nm (nm + 64) ν ν1 ρ ρ → Agree lo (lo + sz) ν1 ν2 ρ ρ2 → Agree nm (nm + 64) ν ν3 ρ ρ → ∀ v, okNames nm 64 lo sz v = true → v.den ν2 ρ2 = v.den ν3 ρ := by
        intro ν1 ν2 ν3 ρ2 a1 a2 a3 v hv
        simp only [okNames, Bool.and_eq_true] at hv
        rw [SV.den_agree a2 v hv.2, SV.den_agree a1 v hv.1, SV.den_agree a3 v hv.1]
      have hheaps : ∀ {ν1 ν2 ν3 : Env G} {ρ2 : Nat → Nat}, Agree nm (nm + 64) ν ν1 ρ ρ → Agree lo (lo + sz) ν1 ν2 ρ ρ2 → Agree nm (nm + 64) ν ν3 ρ ρ → ∀ {us vs : Heap} {l : List (SL × SL)}, diffH (okN nm lo sz) (okB nm lo sz) us vs = some l → (∀ y ∈ l, y.1.den ν2 = y.2.den ν3) → ∀ {w : World}, HW B ν2 ρ2 us w → HW B ν3 ρ vs w := by
        intro ν1 ν2 ν3 ρ2 a1 a2 a3 us vs l hd hy w hw
        refine HW.diff (fun n hn => ?_) (fun n b hn hb w F hd => ?_) (fun k e t he => ?_) hd hy hw
        · simp only [okN, Bool.and_eq_true] at hn
          exact (a2.r n hn.2).symm
        · simp only [okN, Bool.and_eq_true] at hn
          simp only [okB, Bool.and_eq_true] at hb
          exact BlkDen.agree a3 hb.1 hn.1 (BlkDen.agree a1.symm hb.1 hn.1 (BlkDen.agree a2.symm hb.2 hn.2 hd))
        · simp only [okB, Bool.and_eq_true, SBk.av] at he
          rw [SI.den_agree a2 e he.2.2, SI.den_agree a1 e he.1.2, SI.den_agree a3 e he.1.2]
      refine wp_loop_ghost (fun k act w => ∃ ν1, Agree nm (nm + 64) ν ν1 ρ ρ ∧ J ν ν1 ∧ pcDen ν1 pcI ∧ m ν ν1 = k ∧ FR ν1 ρ frI act ∧ HW B ν1 ρ hpI w) (m ν ν0) ⟨ν0, g1, g2, g3, rfl, FR.diff (fun v hv => (SV.den_agree g1 v hv).symm) hst g4 hf,
        HW.diff (fun _ _ => rfl) (fun n b hn hb w F hd => BlkDen.agree g1 hb hn hd) (fun k e t he => by simp only [SBk.av, Bool.and_eq_true] at he; exact (SI.den_agree g1 e he.2).symm) hsl g5 hw⟩ ?_
      rintro k act w ⟨ν1, k1, k2, k3, k4, k5, k6⟩
      refine x_code pr oo hb hpart B ν1 ρ (Exit.then _ Q) (k1.I.trans hI) (fun ch a w hq => hQ ch a w hq) ?_ act w ⟨ν1, ρ, Agree.refl _ _ _ _, k3, fun _ => ⟨k5, k6⟩⟩
      rintro L hL act' w' ⟨ν2, ρ2, e1, e2, e3⟩
      obtain ⟨t, ht, hsum⟩ := sumsM_mem hbody L hL
      have hr := round t ht ν ρ ν1 ν2 ρ2 hI hbad k1 k2 k3 e1
      unfold sumM at hsum
      cases hex : L.ex with
      | normal =>
        rw [hex] at hsum e3
        simp only [tgtOf, exBeq, if_true] at hsum
        split at hsum
        · rename_i d l hd hl'
          cases hsum
          obtain ⟨ν3, q1, q2, q3, q4, q5, q6⟩ := hr e2
          obtain ⟨hf2, hw2⟩ := e3 trivial
          exact ⟨m ν ν3, by omega, ν3, q1, q2, q3, rfl, FR.diff (hnames k1 e1 q1) hd q5 hf2, hheaps k1 e1 q1 hl' q6 hw2⟩
        · cases hsum
      | exit i =>
        rw [hex] at hsum e3
        simp only [tgtOf, exBeq] at hsum
        split at hsum
        · cases hsum
        · rename_i t' ht'
          have ht' : tgtOf (.exit i) tg = some t' := by simpa using ht'
          obtain ⟨m1, m2⟩ := tgtOf_mem ht'
          split at hsum
          · rename_i d l hd hl'
            cases hsum
            obtain ⟨ν3, q1, q2, q3, q4⟩ := hr e2
            obtain ⟨hf2, hw2⟩ := e3 trivial
            have := hl ⟨t'.ex, t'.fr, t'.pc ++ pc, t'.hp⟩ (List.mem_append_left _ (List.mem_map.2 ⟨t', List.mem_filter.2 ⟨m1, by rw [m2]; rfl⟩, rfl⟩)) act' w'
              ⟨ν3, ρ, hmono q1, pcDen_append (q2 t' m1 m2) (pcDen_agree q1 hp hpc), fun _ => ⟨FR.diff (hnames k1 e1 q1) hd q3 hf2, hheaps k1 e1 q1 hl' q4 hw2⟩⟩
            simp only [m2] at this
            exact this
          · cases hsum
      | ret =>
        rw [hex] at hsum e3
        simp only [tgtOf, exBeq] at hsum
        split at hsum
        · cases hsum
        · rename_i t' ht'
          have ht' : tgtOf .ret tg = some t' := by simpa using ht'
          obtain ⟨m1, m2⟩ := tgtOf_mem ht'
          split at hsum
          · rename_i d l hd hl'
            cases hsum
            obtain ⟨ν3, q1, q2, q3, q4⟩ := hr e2
            obtain ⟨hf2, hw2⟩ := e3 trivial
            have := hl ⟨t'.ex, t'.fr, t'.pc ++ pc, t'.hp⟩ (List.mem_append_left _ (List.mem_map.2 ⟨t', List.mem_filter.2 ⟨m1, by rw [m2]; rfl⟩, rfl⟩)) act' w'
              ⟨ν3, ρ, hmono q1, pcDen_append (q2 t' m1 m2) (pcDen_agree q1 hp hpc), fun _ => ⟨FR.diff (hnames k1 e1 q1) hd q3 hf2, hheaps k1 e1 q1 hl' q4 hw2⟩⟩
            simp only [m2] at this
            exact this
          · cases hsum
      | bad =>
        rw [hex] at hsum
        simp only [Option.some.injEq] at hsum
        subst hsum
        exact (hr e2).elim
end
end
end Go.Sy
end

section
namespace Go.Sy
open Go Go.RowKit

/-! ### a loop's entry, got by a run -/
def capt (O : Orac) (f s : Nat) : Orac := { O with loop := fun g t nm fr pc hp => if Nat.beq f g && Nat.beq s t then some (some [⟨.exit 777, fr, pc, hp⟩]) else O.loop g t nm fr pc hp }
def is777 (L : Leaf) : Bool := match L.ex with | .exit i => Nat.beq i 777 | _ => false
/-- The frame, the path and the heap as the loop at site s of function f is first reached. -/
def capL (P : Program) (O : Orac) (f s : Nat) (args : List SV) (pc : PC) (hp : Heap) : Leaf := match P.funcs[f]? with
  | some fn => match pieceX P (capt O f s) f (bodyOf P f) (args ++ List.replicate (fn.ntmps - args.length) (.tup [])) pc hp with
    | some ls => (ls.find? is777).getD ⟨.bad, [], [], []⟩
    | _ => ⟨.bad, [], [], []⟩
  | none => ⟨.bad, [], [], []⟩
/-- All of them. -/
def capAll (P : Program) (O : Orac) (f s : Nat) (args : List SV) (pc : PC) (hp : Heap) : List Leaf := match P.funcs[f]? with
  | some fn => match pieceX P (capt O f s) f (bodyOf P f) (args ++ List.replicate (fn.ntmps - args.length) (.tup [])) pc hp with
    | some ls => ls.filter is777
    | _ => []
  | none => []
def capN (n : Nat) (l : List Leaf) : Leaf := (l[n]?).getD ⟨.bad, [], [], []⟩
/-- Slots that are not laid: nothing is said. -/
def deadUndef : List SV → List SV
  | [] => []
  | .tup [] :: r => .dead :: deadUndef r
  | v :: r => v :: deadUndef r
/-- A slice's row, with another list. -/
def setRow (v : SV) (l : SL) (hp : Heap) : Heap := match v with
  | .sl b _ _ _ => match hget b hp with
    | some (.row k _ c t) => hset b (.row k l c t) hp
    | _ => hp
  | _ => hp
/-- From slot n on: nothing is said. -/
def deadFrom (n : Nat) (l : List SV) : List SV := l.take n ++ List.replicate (l.length - n) .dead
/-- The name of a loop at site s, in a top-level run. -/
def nmAt (s : Nat) : Nat := LO + (s * 256 + 255) * (LO / K0)

theorem out_small {s m : Nat} (h : m < 1000) : out (nmAt s) (nmAt s + 64) m = true := by
  unfold out nmAt
  have : (1000 : Nat) ≤ LO := by decide +kernel
  have h2 : LO ≤ LO + (s * 256 + 255) * (LO / K0) := Nat.le_add_right _ _
  simp only [Bool.or_eq_true, Nat.ble_eq]
  omega
theorem out_big {m : Nat} (h : m < 1000) : out (2^700) (2^700 + 2^650) m = true := by
  unfold out
  have : (1000 : Nat) ≤ 2^700 := by decide +kernel
  simp only [Bool.or_eq_true, Nat.ble_eq]
  omega
theorem out_LO {m : Nat} (h : m < 1000) : out LO (LO + LO) m = true := by
  unfold out
  have : (1000 : Nat) ≤ LO := by decide +kernel
  simp only [Bool.or_eq_true, Nat.ble_eq]
  omega
theorem out_nm {s j : Nat} (hs : Nat.ble s 100000 = true) (h : j < 64) : out (2^700) (2^700 + 2^650) (nmAt s + j) = true := by
  unfold out nmAt
  have hs := Nat.le_of_ble_eq_true hs
  have h1 : (s * 256 + 255) * (LO / K0) ≤ 25600255 * (LO / K0) := Nat.mul_le_mul_right _ (by omega)
  have h2 : LO + 25600255 * (LO / K0) + 64 ≤ 2^700 := by decide +kernel
  simp only [Bool.or_eq_true, Nat.ble_eq]
  omega

section
variable {P : Program} {G : Type} {O : Orac} {I : In G}
/-- A call that changes nothing old, and hands back what is said; the leaf may say more of the path. -/
theorem pure_call' {g : Nat} {args : List SV} {v : SV} {hp : Heap} {lo sz : Nat} {B : Base} {ν : Env G} {ρ : Nat → Nat} {w : World} {R : Ending → World → Prop} {pc : PC} {cs : List CLeaf} (hpc : pcDen ν pc) (hw : HW B ν ρ hp w)
    (hc : ∀ c ∈ cs, ∀ ν' ρ' w', Agree lo (lo + sz) ν ν' ρ ρ' → pcDen ν' c.pc → c.bad = false ∧ (HW B ν' ρ' c.hp w' → R (.returned (c.v.den ν' ρ')) w')) (hm : (⟨false, v, pc, hp⟩ : CLeaf) ∈ cs)
    (h : Calls P g (denL ν ρ args).toArray w fun e w' => e = .returned (v.den ν ρ) ∧ Below w.heap.size w w') : Calls P g (denL ν ρ args).toArray w R :=
  h.mono fun e w' ⟨he, hb⟩ => by
    subst he
    exact (hc _ hm ν ρ w' (Agree.refl _ _ _ _) hpc).2 (hw.later hb)
end
end Go.Sy
end

section
namespace Go.Sy
open Go Go.RowKit

/-- An access on a list of words. -/
def doG (k c a b : Int) (l : List Int) : Gh :=
  if k < 1 ∨ 7 < k then ⟨0, 2, false, l, [], [], 0⟩
  else if c < 0 ∨ (l.length : Int) ≤ c then ⟨0, 3, false, l, [], [], 0⟩
  else
    let was := l.getD c.toNat 0
    if k = 1 then ⟨was, 0, true, l, [], [], 0⟩
    else if k = 2 then ⟨was, 0, true, l.set c.toNat a, [], [], 0⟩
    else if k = 3 then (if was = a then ⟨was, 0, true, l.set c.toNat b, [], [], 0⟩ else ⟨was, 0, false, l, [], [], 0⟩)
    else if k = 4 then ⟨was, 0, true, l.set c.toNat (IntKind.u64.wrap (was + a)), [], [], 0⟩
    else if k = 5 then ⟨was, 0, true, l.set c.toNat (bitsDen 1 .u64 was a), [], [], 0⟩
    else if k = 6 then ⟨was, 0, true, l.set c.toNat (bitsDen 0 .u64 was a), [], [], 0⟩
    else ⟨was, 0, decide (was ≠ a), l, [], [], 0⟩

theorem doG_length (k c a b : Int) (l : List Int) : (doG k c a b l).l.length = l.length := by
  unfold doG
  simp only
  repeat' split
  all_goals simp

/-- An arena's cells in a memory of n zeros, as its links are laid up to i (first free: 2). -/
def aG (n at' N i : Int) : List Int := (List.range n.toNat).map fun (k : Nat) => if (k : Int) = at' then 2 else if at' + 2 ≤ (k : Int) ∧ (k : Int) < at' + i ∧ (k : Int) < at' + N then (k : Int) - at' + 1 else 0
theorem aG_length (n at' N i : Int) : (aG n at' N i).length = n.toNat := by simp [aG]
theorem aG_get (n at' N i : Int) (k : Nat) (h : k < (aG n at' N i).length) : (aG n at' N i)[k] = if (k : Int) = at' then 2 else if at' + 2 ≤ (k : Int) ∧ (k : Int) < at' + i ∧ (k : Int) < at' + N then (k : Int) - at' + 1 else 0 := by
  simp [aG]
theorem aG_set {n at' N i v : Int} (h0 : 0 ≤ at') (h1 : 1 ≤ i) (hv : v = if 2 ≤ i ∧ i < N then i + 1 else 0) : (aG n at' N i).set (at' + i).toNat v = aG n at' N (i + 1) := by
  refine List.ext_getElem (by simp [aG_length]) fun k h h' => ?_
  rw [List.getElem_set, aG_get, aG_get]
  subst hv
  by_cases e : (at' + i).toNat = k
  · rw [if_pos e]
    have e1 : (k : Int) = at' + i := by omega
    have e3 : ¬ (k : Int) = at' := by omega
    by_cases h2 : 2 ≤ i ∧ i < N
    · have h3 : at' + 2 ≤ (k : Int) ∧ (k : Int) < at' + (i + 1) ∧ (k : Int) < at' + N := by omega
      rw [if_pos h2, if_neg e3, if_pos h3]; omega
    · have h3 : ¬ (at' + 2 ≤ (k : Int) ∧ (k : Int) < at' + (i + 1) ∧ (k : Int) < at' + N) := by omega
      rw [if_neg h2, if_neg e3, if_neg h3]
  · rw [if_neg e]
    by_cases e2 : (k : Int) = at'
    · rw [if_pos e2, if_pos e2]
    · rw [if_neg e2, if_neg e2]
      by_cases h2 : at' + 2 ≤ (k : Int) ∧ (k : Int) < at' + i ∧ (k : Int) < at' + N
      · have h3 : at' + 2 ≤ (k : Int) ∧ (k : Int) < at' + (i + 1) ∧ (k : Int) < at' + N := by omega
        rw [if_pos h2, if_pos h3]
      · have h3 : ¬ (at' + 2 ≤ (k : Int) ∧ (k : Int) < at' + (i + 1) ∧ (k : Int) < at' + N) := by omega
        rw [if_neg h2, if_neg h3]
theorem aG_start {n at' N i : Int} (h0 : 0 ≤ at') (hi : i ≤ 2) : (List.replicate n.toNat (0 : Int)).set at'.toNat 2 = aG n at' N i := by
  refine List.ext_getElem (by simp [aG_length]) fun k h h' => ?_
  rw [List.getElem_set, aG_get, List.getElem_replicate]
  by_cases e : at'.toNat = k
  · rw [if_pos e, if_pos (by omega)]
  · rw [if_neg e, if_neg (by omega), if_neg (by omega)]
/-- A line's cells: a memory of n zeros where an arena lies at at' + 2, and two 1s ahead of it. -/
def qG (n at' N : Int) : List Int := ((aG n (at' + 2) N (N + 1)).set at'.toNat 1).set (at' + 1).toNat 1
theorem qG_length (n at' N : Int) : (qG n at' N).length = n.toNat := by simp [qG, aG_length]

/-- An arena's cells at at' in a memory, as its links are laid up to i, f the first free one. -/
def iG (l : List Int) (at' N f i : Int) : List Int := (List.range l.length).map fun (k : Nat) => if (k : Int) = at' then (if f ≤ N then f else 0) else if at' < (k : Int) ∧ (k : Int) < at' + i then (if f ≤ (k : Int) - at' ∧ (k : Int) - at' < N then (k : Int) - at' + 1 else 0) else l.getD k 0
theorem iG_length (l : List Int) (at' N f i : Int) : (iG l at' N f i).length = l.length := by simp [iG]
theorem iG_get (l : List Int) (at' N f i : Int) (k : Nat) (h : k < (iG l at' N f i).length) : (iG l at' N f i)[k] = if (k : Int) = at' then (if f ≤ N then f else 0) else if at' < (k : Int) ∧ (k : Int) < at' + i then (if f ≤ (k : Int) - at' ∧ (k : Int) - at' < N then (k : Int) - at' + 1 else 0) else l.getD k 0 := by
  simp [iG]
theorem iG_set {l : List Int} {at' N f i v : Int} (h0 : 0 ≤ at') (h1 : 1 ≤ i) (hv : v = if f ≤ i ∧ i < N then i + 1 else 0) : (iG l at' N f i).set (at' + i).toNat v = iG l at' N f (i + 1) := by
  refine List.ext_getElem (by simp [iG_length]) fun k h h' => ?_
  rw [List.getElem_set, iG_get, iG_get]
  subst hv
  by_cases e : (at' + i).toNat = k
  · have e1 : (k : Int) - at' = i := by omega
    have e3 : ¬ (k : Int) = at' := by omega
    have e4 : at' < (k : Int) ∧ (k : Int) < at' + (i + 1) := by omega
    rw [if_pos e, if_neg e3, if_pos e4, e1]
  · rw [if_neg e]
    by_cases e2 : (k : Int) = at'
    · rw [if_pos e2, if_pos e2]
    · rw [if_neg e2, if_neg e2]
      by_cases h2 : at' < (k : Int) ∧ (k : Int) < at' + i
      · have h3 : at' < (k : Int) ∧ (k : Int) < at' + (i + 1) := by omega
        rw [if_pos h2, if_pos h3]
      · have h3 : ¬ (at' < (k : Int) ∧ (k : Int) < at' + (i + 1)) := by omega
        rw [if_neg h2, if_neg h3]
theorem iG_start {l : List Int} {at' N f v : Int} (h0 : 0 ≤ at') (hv : v = if f ≤ N then f else 0) : l.set at'.toNat v = iG l at' N f 1 := by
  refine List.ext_getElem (by simp [iG_length]) fun k h h' => ?_
  rw [List.getElem_set, iG_get]
  subst hv
  by_cases e : at'.toNat = k
  · have e0 : (k : Int) = at' := by omega
    rw [if_pos e, if_pos e0]
  · have e2 : ¬ (k : Int) = at' := by omega
    have e3 : ¬ (at' < (k : Int) ∧ (k : Int) < at' + 1) := by omega
    rw [if_neg e, if_neg e2, if_neg e3, List.getD_eq_getElem?_getD, List.getElem?_eq_getElem (by simpa using h), Option.getD_some]

/-- n, n - 1, .., i + 1. -/
def fG (n i : Int) : List Int := (List.range (n - i).toNat).map fun (k : Nat) => n - (k : Int)
theorem fG_length (n i : Int) : (fG n i).length = (n - i).toNat := by simp [fG]
theorem fG_self (n : Int) : fG n n = [] := by simp [fG]
theorem fG_step {n i : Int} (h : i ≤ n) : fG n i ++ [i] = fG n (i - 1) := by
  unfold fG
  have e : (n - (i - 1)).toNat = (n - i).toNat + 1 := by omega
  rw [e, List.range_succ, List.map_append]
  have e2 : n - (((n - i).toNat : Nat) : Int) = i := by omega
  simp only [List.map_cons, List.map_nil, e2]

/-- May a cell of kind p be of kind k? (A slice may be none.) -/
def kOK (p : Int) (k : Nat) : Prop := (k : Int) = p ∨ (p = 10 ∧ k = 9)
/-- A row of structs in memory: its cells, and the slices to which they lead. -/
structure srep (g : Gh) (w : World) (n : Nat) (F : Nat → Prop) : Prop where
  wpos : 1 ≤ g.w
  whole : ∃ r, g.s.length = r * g.w
  row : ∃ rest : List Value, w.heap[n]? = some (.cells (g.s.map SC.val ++ rest).toArray (g.c - 1).toNat (0, 0)) ∧ g.u * (g.w : Int) = ((g.s.length + rest.length : Nat) : Int) ∧ g.u ≤ 9223372036854775807
  kinds : ∀ i c, g.s[i]? = some c → kOK (g.l.getD (i % g.w) 0) c.k
  nil : ∀ c ∈ g.s, c.k = 9 → c.l = []
  sub : ∀ c ∈ g.s, 10 ≤ c.k → c.b ≠ n ∧ ∃ (ty : Nat) (rest : List Value), w.heap[c.b]? = some (.cells (c.l.map (Value.int .u64) ++ rest).toArray ty (0, 0)) ∧ c.c = c.l.length + rest.length ∧ c.c ≤ 9223372036854775807
  foot : ∀ k, F k ↔ k = n ∨ ∃ c ∈ g.s, 10 ≤ c.k ∧ k = c.b
theorem srep.lt {g : Gh} {w : World} {n : Nat} {F : Nat → Prop} (h : srep g w n F) {k : Nat} (hk : F k) : k < w.heap.size := by
  rcases (h.foot k).1 hk with rfl | ⟨c, hc, h10, rfl⟩
  · obtain ⟨_, h1, _⟩ := h.row
    exact (Array.getElem?_eq_some_iff.1 h1).1
  · obtain ⟨_, _, _, h1, _⟩ := h.sub c hc h10
    exact (Array.getElem?_eq_some_iff.1 h1).1
theorem srep.frame {g : Gh} {w w' : World} {n : Nat} {F : Nat → Prop} (h : srep g w n F) (he : ∀ k, F k → w'.heap[k]? = w.heap[k]?) : srep g w' n F where
  wpos := h.wpos
  whole := h.whole
  kinds := h.kinds
  nil := h.nil
  row := by rw [he n ((h.foot n).2 (.inl rfl))]; exact h.row
  sub := fun c hc h10 => by rw [he c.b ((h.foot c.b).2 (.inr ⟨c, hc, h10, rfl⟩))]; exact h.sub c hc h10
  foot := h.foot

def inM : In Gh where
  gi f g a b := match f with
    | 0 => g.u
    | 1 => g.c
    | 10 => (g.t.getD a.toNat (0, 0, 0, 0)).1
    | 11 => (g.t.getD a.toNat (0, 0, 0, 0)).2.1
    | 12 => (g.t.getD a.toNat (0, 0, 0, 0)).2.2.1
    | 13 => (g.t.getD a.toNat (0, 0, 0, 0)).2.2.2
    | 14 => g.s.length
    | 15 => (getC g.s (a + b)).x
    | 16 => g.w
    | 17 => ((g.s.length / g.w : Nat) : Int)
    | _ => 0
  gb f g a _ := match f with
    | 11 => decide (0 < (g.t.getD a.toNat (0, 0, 0, 0)).2.1)
    | _ => g.o
  gl f g _ _ := g.l
  ga f g h a b c d l := match f with
    | 0 => doG a b c d l
    | 1 => ghL l
    | 2 => ⟨0, 0, g.l == h.l, [], [], [], 0⟩
    | 20 => ghL (aG a b c d)
    | 21 => ghL (qG a b c)
    | 22 => ghL (iG l a b c d)
    | 23 => ghL (fG a b)
    | f => xga f g h a b c d l
  gv := fun _ g a => (getC g.s a).val
  gvo := fun _ g a => (getC g.s a).val_one
  rep := fun g w n F => (g.c = 0 → w.heap[n]? = some (.cells (g.l.map bval).toArray g.u.toNat (0, 0)) ∧ ∀ k, F k ↔ k = n) ∧ (g.c ≠ 0 → srep g w n F)
  lt := fun {g w n F} h k hk => by
    by_cases hc : g.c = 0
    · obtain ⟨h1, h2⟩ := h.1 hc
      have := (h2 k).1 hk
      subst this
      exact (Array.getElem?_eq_some_iff.1 h1).1
    · exact (h.2 hc).lt hk
  frame := fun {g w w' n F} h he => ⟨fun hc => ⟨by rw [he _ (((h.1 hc).2 _).2 rfl)]; exact (h.1 hc).1, (h.1 hc).2⟩, fun hc => (h.2 hc).frame he⟩

def doX (k c a b : SI) (l : SL) : SG := .app 0 (.var 0) (.var 0) k c a b l
def eqX (l m : SL) : SB := if l.beq m then .lit true else .gb 0 (.app 2 (.app 1 (.var 0) (.var 0) (.lit 0) (.lit 0) (.lit 0) (.lit 0) l) (.app 1 (.var 0) (.var 0) (.lit 0) (.lit 0) (.lit 0) (.lit 0) m) (.lit 0) (.lit 0) (.lit 0) (.lit 0) .nil) (.lit 0) (.lit 0)

section
variable {ν : Env Gh} (hI : ν.I = inM)
include hI
theorem doX_gi0 (k c a b : SI) (l : SL) (x y : SI) : (SI.gi 0 (doX k c a b l) x y).den ν = (doG (k.den ν) (c.den ν) (a.den ν) (b.den ν) (l.den ν)).u := by simp [SI.den, doX, SG.den, hI, inM]
theorem doX_gi1 (k c a b : SI) (l : SL) (x y : SI) : (SI.gi 1 (doX k c a b l) x y).den ν = (doG (k.den ν) (c.den ν) (a.den ν) (b.den ν) (l.den ν)).c := by simp [SI.den, doX, SG.den, hI, inM]
theorem doX_gb (k c a b : SI) (l : SL) (x y : SI) : (SB.gb 0 (doX k c a b l) x y).den ν = (doG (k.den ν) (c.den ν) (a.den ν) (b.den ν) (l.den ν)).o := by simp [SB.den, doX, SG.den, hI, inM]
theorem doX_gl (f : Nat) (k c a b : SI) (l : SL) (x y : SI) : (SL.gl f (doX k c a b l) x y).den ν = (doG (k.den ν) (c.den ν) (a.den ν) (b.den ν) (l.den ν)).l := by simp [SL.den, doX, SG.den, hI, inM]
theorem eqX_den (l m : SL) : (eqX l m).den ν = (l.den ν == m.den ν) := by
  unfold eqX
  split
  · rename_i h
    rw [SL.beq_eq h]
    simp [SB.den]
  · simp [SB.den, SG.den, hI, inM, ghL]
end

/-- A list has this length, as is seen from its form. -/
def lenIs : SI → SL → Bool
  | n, .rep m x => n.beq m || n.beq (SI.mkNat m) || n.beq (.len (.rep m x))
  | n, .set l i x => lenIs n l || n.beq (.len (.set l i x))
  | n, .gl f (.app g h h' a b c d l) x y => (Nat.beq g 0 && lenIs n l) || n.beq (.len (.gl f (.app g h h' a b c d l) x y))
  | n, l => n.beq (.len l)
theorem lenIs_den {ν : Env Gh} (hI : ν.I = inM) : ∀ {n : SI} {l : SL}, lenIs n l = true → (n.den ν).toNat = (l.den ν).length := by
  have base : ∀ {n : SI} {l : SL}, n.beq (.len l) = true → (n.den ν).toNat = (l.den ν).length := fun h => by rw [SI.beq_eq h]; simp [SI.den]
  intro n l
  induction n, l using lenIs.induct with
  | case1 n m x =>
    intro h
    simp only [lenIs, Bool.or_eq_true] at h
    rcases h with (h | h) | h
    · rw [SI.beq_eq h]; simp [SL.den]
    · rw [SI.beq_eq h]; simp only [SL.den, SI.mkNat_den, List.length_replicate]; omega
    · exact base h
  | case2 n l i x ih =>
    intro h
    simp only [lenIs, Bool.or_eq_true] at h
    rcases h with h | h
    · rw [ih h]; simp [SL.den]
    · exact base h
  | case3 n f g h' h'' a b c d l x y ih =>
    intro h
    simp only [lenIs, Bool.or_eq_true, Bool.and_eq_true] at h
    rcases h with h | h
    · have := Nat.eq_of_beq_eq_true h.1
      subst this
      rw [ih h.2]
      simp [SL.den, SG.den, hI, inM, doG_length]
    · exact base h
  | case4 n l h1 h2 h3 =>
    intro h
    unfold lenIs at h
    split at h
    · exact (h1 _ _ rfl).elim
    · exact (h2 _ _ _ rfl).elim
    · exact (h3 _ _ _ _ _ _ _ _ _ _ _ rfl).elim
    · exact base h

/-- A slice of words that can be read. -/
def Ints (w : World) (v : Value) (xs : List Int) : Prop := ∃ g o c : Nat, v = .slice (some ⟨g, o, none⟩) xs.length c ∧ g < w.heap.size ∧ xs.length ≤ 9223372036854775807 ∧ ∀ (j : Nat) (x : Int), xs[j]? = some x → w.cell? ⟨g, o + j, none⟩ = some (.int .u64 x)

/-- What a slice holds, and what is still owed (its length). -/
def intsX (hp : Heap) : SV → Option (SL × PC)
  | .sl q o n _ => match hget q hp with
    | some (.row k l _ _) => if kBeq k .u64 && o.beq (.lit 0) then some (l, if lenIs n l then [] else [(.eq (.nat n) (.len l), false)]) else none
    | _ => none
  | _ => none

theorem intsX_den {B : Base} {ν : Env Gh} {ρ : Nat → Nat} {hp : Heap} {w : World} (hI : ν.I = inM) (hw : HW B ν ρ hp w) {v : SV} {l : SL} {bs : PC} (h : intsX hp v = some (l, bs)) (hb : ∀ x ∈ bs, x.1.den ν ≠ x.2) : Ints w (v.den ν ρ) (l.den ν) := by
  unfold intsX at h
  split at h
  · rename_i q o n c
    split at h
    · rename_i k l' cp ty hg
      split at h
      · rename_i hk
        simp only [Bool.and_eq_true] at hk
        simp only [Option.some.injEq, Prod.mk.injEq] at h
        obtain ⟨rfl, rfl⟩ := h
        have e1 := kBeq_eq hk.1
        have e2 := SI.beq_eq hk.2
        subst e1 e2
        obtain ⟨rest, h1, h2, h3⟩ := hw.ints (hget_mem hg)
        have hlen : (n.den ν).toNat = (l'.den ν).length := by
          cases hl : lenIs n l' with
          | true => exact lenIs_den hI hl
          | false =>
            rw [hl] at hb
            simp only [Bool.false_eq_true, if_false, List.mem_singleton, forall_eq] at hb
            have := hb
            simp only [SB.den, SI.den, ne_eq, beq_eq_false_iff_ne, Decidable.not_not] at this
            omega
        refine ⟨ρ q, 0, (c.den ν).toNat, by simp [SV.den, SI.den, hlen], Array.getElem?_eq_some_iff.1 h1 |>.1, by omega, fun j x hx => ?_⟩
        rw [cell_at h1]
        have hj : j < (l'.den ν).length := (List.getElem?_eq_some_iff.1 hx).1
        rw [List.getElem?_append_left (by simpa using hj), List.getElem?_map, Nat.zero_add, hx]
        rfl
      · cases h
    · cases h
  · cases h

def bad1 (pc : PC) (c : SB × Bool) : CLeaf := ⟨true, .tup [], c :: pc, []⟩

/-- Are two slices' words the same? -/
def eqK (_ : Nat) (args : List SV) (pc : PC) (hp : Heap) : Option (List CLeaf) := match args with
  | [a, b] => match intsX hp a, intsX hp b with
    | some (l, bs), some (m, cs) => some (⟨false, .bool (eqX l m), pc, hp⟩ :: (bs ++ cs).map (bad1 pc))
    | _, _ => none
  | _ => none

def EqC (P : Program) (g : Nat) : Prop := ∀ (w : World) (a b : Value) (xs ys : List Int), Ints w a xs → Ints w b ys → Calls P g #[a, b] w fun e w' => e = .returned (.bool (xs == ys)) ∧ Below w.heap.size w w'

variable {P : Program} {O : Orac}

theorem bads_ok {pc : PC} {ν : Env Gh} {ρ : Nat → Nat} {B : Base} {lo sz : Nat} {R : Ending → World → Prop} {cs : List CLeaf} {bs : PC} (hpc : pcDen ν pc)
    (hc : ∀ c ∈ cs, ∀ ν' ρ' w', Agree lo (lo + sz) ν ν' ρ ρ' → pcDen ν' c.pc → c.bad = false ∧ (HW B ν' ρ' c.hp w' → R (.returned (c.v.den ν' ρ')) w')) (hm : ∀ x ∈ bs, bad1 pc x ∈ cs) : ∀ x ∈ bs, x.1.den ν ≠ x.2 := fun x hx he => by
  have := (hc _ (hm x hx) ν ρ B.w0 (Agree.refl _ _ _ _) (pcDen_one' he hpc)).1
  simp [bad1] at this

theorem eqK_ok (oo : OOK P O inM) {g : Nat} (hc : EqC P g) : OOK P (O.withCall g eqK) inM := by
  refine withCall_ok oo ?_
  intro lo args pc hp cs h sz hsz B ν ρ w R hI hpc hw hl
  unfold eqK at h
  split at h
  · rename_i a b
    split at h
    · rename_i l bs m bs' h1 h2
      cases h
      have hb := bads_ok (bs := bs ++ bs') hpc hl (fun x hx => by simp only [List.mem_cons, List.mem_map]; exact .inr ⟨x, hx, rfl⟩)
      have i1 := intsX_den hI hw h1 (fun x hx => hb x (by simp [hx]))
      have i2 := intsX_den hI hw h2 (fun x hx => hb x (by simp [hx]))
      refine pure_call' (v := .bool (eqX l m)) hpc hw hl (List.mem_cons_self ..) ?_
      have := hc w _ _ _ _ i1 i2
      simp only [SV.den, eqX_den hI]
      exact this
    · cases h
  · cases h

/-! ### an access -/
/-- One old block turned; new ones. -/
structure Turned (q : Nat) (o : Obj) (w w' : World) : Prop where
  os : w'.os = w.os
  tape : w'.tape = w.tape
  output : w'.output = w.output
  size : w.heap.size ≤ w'.heap.size
  kept : ∀ k, k < w.heap.size → k ≠ q → w'.heap[k]? = w.heap[k]?
  new : w'.heap[q]? = some o

theorem HW.turned {B : Base} {ν : Env Gh} {ρ : Nat → Nat} {hp : Heap} {w w' : World} (h : HW B ν ρ hp w) {n : Nat} {b b' : SBk} (hc : NoRes b) (hn : (n, b) ∈ hp) {o : Obj} (ht : Turned (ρ n) o w w')
    (hb : BlkDen B ν ρ w' (fun j => j = ρ n) n b') : HW B ν ρ (hset n b' hp) w' := by
  obtain ⟨F, h1, h2, h3⟩ := h.foot
  have hF := BlkDen.single hc (h1 n b hn)
  have hkk : ∀ k, ¬ B.own k → w'.heap[k]? = w.heap[k]? := fun k hk => by
    have hlt : k < w.heap.size := by
      rcases Nat.lt_or_ge k w.heap.size with hl | hl
      · exact hl
      · exact absurd (.inl (Nat.le_trans h.size hl)) hk
    exact ht.kept k hlt (fun e => hk (e ▸ h2 n b _ hn ((hF _).2 rfl)))
  refine ⟨ht.os.trans h.os, ht.tape.trans h.tape, ht.output.trans h.output, Nat.le_trans h.size ht.size, fun k hk' => (hkk k hk').trans (h.kept k hk'), by rw [hset_fst]; exact h.nd, ?_⟩
  · have key : ∀ m c, (m, c) ∈ hset n b' hp → ∃ d, (m, d) ∈ hp := fun m c hm => by
      rcases mem_hset h.nd hm with ⟨rfl, rfl⟩ | ⟨hne, hm⟩
      · exact ⟨b, hn⟩
      · exact ⟨c, hm⟩
    refine ⟨F, fun m c hm => ?_, fun m c k hm hFk => ?_, fun m c m' c' k hm hm' hk1 hk2 => ?_⟩
    · rcases mem_hset h.nd hm with ⟨rfl, rfl⟩ | ⟨hne, hm⟩
      · have : F m = fun j => j = ρ m := by funext j; exact propext (hF j)
        rw [this]; exact hb
      · exact BlkDen.world (fun k hFk => ht.kept k (BlkDen.lt (h1 m c hm) hFk) (fun e => hne (h3 m c n b k hm hn hFk ((hF k).2 e)))) (h1 m c hm)
    · obtain ⟨d, hd⟩ := key m c hm
      exact h2 m d k hd hFk
    · obtain ⟨d, hd⟩ := key m c hm
      obtain ⟨d', hd'⟩ := key m' c' hm'
      exact h3 m d m' d' k hd hd' hk1 hk2

def rowObj (l : List Int) (rest : List Value) (ty : Nat) : Obj := .cells (l.map (Value.int .u64) ++ rest).toArray ty (0, 0)

/-- A memory's access. -/
def DoC (P : Program) (g tyM tyR : Nat) : Prop := ∀ (w : World) (p q cap : Nat) (xs : List Int) (rest : List Value) (k c a b : Int), p ≠ q → w.heap[p]? = some (.cells #[.slice (some ⟨q, 0, none⟩) xs.length cap] tyM (0, 0)) → w.heap[q]? = some (rowObj xs rest tyR) → xs.length + rest.length ≤ 9223372036854775807 →
  Calls P g #[.pointer (some ⟨p, 0, none⟩), .agg #[.int .i64 k, .int .i64 c, .int .u64 a, .int .u64 b]] w fun e w' => e = .returned (.tuple #[.int .u64 (doG k c a b xs).u, .bool (doG k c a b xs).o, .int .i64 (doG k c a b xs).c]) ∧ ∃ rest' : List Value, rest'.length = rest.length ∧ Turned q (rowObj (doG k c a b xs).l rest' tyR) w w'
/-- The document's, of a slice. -/
def DoR (P : Program) (g tyR : Nat) : Prop := ∀ (w : World) (q cap : Nat) (xs : List Int) (rest : List Value) (k c a b : Int), w.heap[q]? = some (rowObj xs rest tyR) → xs.length + rest.length ≤ 9223372036854775807 →
  Calls P g #[.slice (some ⟨q, 0, none⟩) xs.length cap, .agg #[.int .i64 k, .int .i64 c, .int .u64 a, .int .u64 b]] w fun e w' => e = .returned (.tuple #[.int .u64 (doG k c a b xs).u, .bool (doG k c a b xs).o, .int .i64 (doG k c a b xs).c]) ∧ ∃ rest' : List Value, rest'.length = rest.length ∧ Turned q (rowObj (doG k c a b xs).l rest' tyR) w w'

def rowK (tyR q : Nat) (n : SI) (acc : SV) (pc : PC) (hp : Heap) : Option (List CLeaf) := match acc with
  | .agg [.int .i64 k, .int .i64 c, .int .u64 a, .int .u64 b] => match hget q hp with
    | some (.row .u64 l cp ty) => if !(Nat.beq ty tyR) then none else some (⟨false, .tup [.int .u64 (.gi 0 (doX k c a b l) (.lit 0) (.lit 0)), .bool (.gb 0 (doX k c a b l) (.lit 0) (.lit 0)), .int .i64 (.gi 1 (doX k c a b l) (.lit 0) (.lit 0))], pc, hset q (.row .u64 (.gl 0 (doX k c a b l) (.lit 0) (.lit 0)) cp ty) hp⟩ ::
        (if lenIs n l then [] else [(SB.eq (.nat n) (.len l), false)]).map (bad1 pc))
    | _ => none
  | _ => none
def doK (tyM tyR : Nat) (_ : Nat) (args : List SV) (pc : PC) (hp : Heap) : Option (List CLeaf) := match args with
  | [.ptr p o, acc] => match hget p hp with
    | some (.cells [.sl q o' n _] ty true) => if o.beq (.lit 0) && o'.beq (.lit 0) && Nat.beq ty tyM then rowK tyR q n acc pc hp else none
    | _ => none
  | _ => none
def doRK (tyR : Nat) (_ : Nat) (args : List SV) (pc : PC) (hp : Heap) : Option (List CLeaf) := match args with
  | [.sl q o' n _, acc] => if o'.beq (.lit 0) then rowK tyR q n acc pc hp else none
  | _ => none

/-- The common part: a row turned by an access. -/
theorem rowK_ok {tyR q : Nat} {n : SI} {acc : SV} {pc : PC} {hp : Heap} {cs : List CLeaf} (h : rowK tyR q n acc pc hp = some cs) {g : Nat} {first : Value} {lo sz : Nat} {B : Base} {ν : Env Gh} {ρ : Nat → Nat} {w : World} {R : Ending → World → Prop} (hI : ν.I = inM) (hpc : pcDen ν pc) (hw : HW B ν ρ hp w)
    (hl : ∀ c ∈ cs, ∀ ν' ρ' w', Agree lo (lo + sz) ν ν' ρ ρ' → pcDen ν' c.pc → c.bad = false ∧ (HW B ν' ρ' c.hp w' → R (.returned (c.v.den ν' ρ')) w'))
    (hcall : ∀ (xs : List Int) (rest : List Value) (k c a b : Int), (n.den ν).toNat = xs.length → w.heap[ρ q]? = some (rowObj xs rest tyR) → xs.length + rest.length ≤ 9223372036854775807 → Calls P g #[first, .agg #[.int .i64 k, .int .i64 c, .int .u64 a, .int .u64 b]] w fun e w' => e = .returned (.tuple #[.int .u64 (doG k c a b xs).u, .bool (doG k c a b xs).o, .int .i64 (doG k c a b xs).c]) ∧ ∃ rest' : List Value, rest'.length = rest.length ∧ Turned (ρ q) (rowObj (doG k c a b xs).l rest' tyR) w w') :
    Calls P g #[first, acc.den ν ρ] w R := by
  unfold rowK at h
  split at h
  · rename_i k c a b
    split at h
    · rename_i l cp ty hg
      split at h
      · cases h
      rename_i hty
      have hty := Nat.eq_of_beq_eq_true (by simpa using hty : Nat.beq ty tyR = true)
      subst hty
      cases h
      obtain ⟨rest, h1, h2, h3⟩ := hw.ints (hget_mem hg)
      have hb := bads_ok hpc hl (bs := if lenIs n l then [] else [(SB.eq (.nat n) (.len l), false)]) (fun x hx => List.mem_cons_of_mem _ (List.mem_map.2 ⟨x, hx, rfl⟩))
      have hlen : (n.den ν).toNat = (l.den ν).length := by
        cases hl : lenIs n l with
        | true => exact lenIs_den hI hl
        | false =>
          rw [hl] at hb
          simp only [Bool.false_eq_true, if_false, List.mem_singleton, forall_eq] at hb
          have := hb
          simp only [SB.den, SI.den, ne_eq, beq_eq_false_iff_ne, Decidable.not_not] at this
          omega
      have hcl := hcall (l.den ν) rest (k.den ν) (c.den ν) (a.den ν) (b.den ν) hlen h1 (by omega)
      have eacc : (SV.agg [.int .i64 k, .int .i64 c, .int .u64 a, .int .u64 b]).den ν ρ = .agg #[.int .i64 (k.den ν), .int .i64 (c.den ν), .int .u64 (a.den ν), .int .u64 (b.den ν)] := by simp [SV.den, denL]
      rw [eacc]
      refine hcl.mono fun e w' ⟨he, rest', hr, ht⟩ => ?_
      subst he
      have hm := hl _ (List.mem_cons_self ..) ν ρ w' (Agree.refl _ _ _ _) hpc
      have := hm.2 (hw.turned (b := .row .u64 l cp ty) trivial (hget_mem hg) ht (by
        simp only [BlkDen, doX_gl hI]
        refine ⟨⟨rest', ht.new, ?_, ?_⟩, fun _ => trivial⟩
        · rw [doG_length, hr]; exact h2
        · exact h3))
      simpa only [SV.den, denL, doX_gi0 hI, doX_gi1 hI, doX_gb hI] using this
    · cases h
  · cases h

theorem doK_ok (oo : OOK P O inM) {g tyM tyR : Nat} (hc : DoC P g tyM tyR) : OOK P (O.withCall g (doK tyM tyR)) inM := by
  refine withCall_ok oo ?_
  intro lo args pc hp cs h sz hsz B ν ρ w R hI hpc hw hl
  unfold doK at h
  split at h
  · rename_i p o acc
    split at h
    · rename_i q o' n cap ty hg
      split at h
      · rename_i hk
        simp only [Bool.and_eq_true] at hk
        have e1 := SI.beq_eq hk.1.1
        have e2 := SI.beq_eq hk.1.2
        have e3 := Nat.eq_of_beq_eq_true hk.2
        subst e1 e2 e3
        have hx : ∃ l cp ty', hget q hp = some (.row .u64 l cp ty') := by
          unfold rowK at h
          split at h
          · split at h
            · rename_i l cp ty' hq; exact ⟨l, cp, ty', hq⟩
            · cases h
          · cases h
        have hne : ρ p ≠ ρ q := fun e => by
          obtain ⟨l, cp, ty', hq⟩ := hx
          obtain ⟨F, f1, f2, f3⟩ := hw.foot
          have a1 := (BlkDen.single (b := .cells [.sl q (.lit 0) n cap] ty true) trivial (f1 _ _ (hget_mem hg)) (ρ p)).2 rfl
          have a2 := (BlkDen.single (b := .row .u64 l cp ty') trivial (f1 _ _ (hget_mem hq)) (ρ q)).2 rfl
          have := f3 _ _ _ _ _ (hget_mem hg) (hget_mem hq) a1 (e ▸ a2)
          subst this
          rw [hg] at hq
          cases hq
        have hcell := hw.row (hget_mem hg)
        have e : (denL ν ρ [SV.ptr p (.lit 0), acc]).toArray = #[.pointer (some ⟨ρ p, 0, none⟩), acc.den ν ρ] := by simp [denL, SV.den, SI.den]
        rw [e]
        refine rowK_ok h hI hpc hw hl fun xs rest k c a b hn hq hm => ?_
        obtain ⟨r, h1, h2⟩ := hcell
        rw [h2 rfl] at h1
        refine hc w (ρ p) (ρ q) (cap.den ν).toNat xs rest k c a b hne ?_ hq hm
        rw [h1, ← hn]
        simp [denL, SV.den, SI.den]
      · cases h
    · cases h
  · cases h

theorem doRK_ok (oo : OOK P O inM) {g tyR : Nat} (hc : DoR P g tyR) : OOK P (O.withCall g (doRK tyR)) inM := by
  refine withCall_ok oo ?_
  intro lo args pc hp cs h sz hsz B ν ρ w R hI hpc hw hl
  unfold doRK at h
  split at h
  · rename_i q o' n cap acc
    split at h
    · rename_i hk
      have e2 := SI.beq_eq hk
      subst e2
      have e : (denL ν ρ [SV.sl q (.lit 0) n cap, acc]).toArray = #[.slice (some ⟨ρ q, 0, none⟩) (n.den ν).toNat (cap.den ν).toNat, acc.den ν ρ] := by simp [denL, SV.den, SI.den]
      rw [e]
      refine rowK_ok h hI hpc hw hl fun xs rest k c a b hn hq hm => ?_
      rw [hn]
      exact hc w (ρ q) (cap.den ν).toNat xs rest k c a b hq hm
    · cases h
  · cases h

/-! ### contracts of calls that turn one row -/
/-- The leaves: may it be; the value; the path; the row's list. -/
def keptX (kp : Option (Nat × List SV × Nat)) (hp : Heap) : Bool := match kp with
  | none => true
  | some (n, cs, ty) => match hget n hp with
    | some b => b.beq (.cells cs ty true)
    | none => false
def rw1 (kp : Option (Nat × List SV × Nat)) (n : Nat) (cp : SI) (ty : Nat) (c : CLeaf) : Option (Bool × SV × PC × SL) :=
  if c.bad then some (true, c.v, c.pc, .nil) else match hget n c.hp with
    | some (.row .u64 l cp' ty') => if cp'.beq cp && Nat.beq ty' ty && keptX kp c.hp then some (false, c.v, c.pc, l) else none
    | _ => none
def rwL (kp : Option (Nat × List SV × Nat)) (n : Nat) (cp : SI) (ty : Nat) : List CLeaf → Option (List (Bool × SV × PC × SL))
  | [] => some []
  | c :: r => match rw1 kp n cp ty c, rwL kp n cp ty r with
    | some x, some l => some (x :: l)
    | _, _ => none
def rwOf (kp : Option (Nat × List SV × Nat)) (n : Nat) (cp : SI) (ty : Nat) (o : Option (List CLeaf)) : Option (List (Bool × SV × PC × SL)) := o.bind (rwL kp n cp ty)

theorem rwOf_mem {kp : Option (Nat × List SV × Nat)} {n : Nat} {cp : SI} {ty : Nat} : ∀ {cs : List CLeaf} {l : List (Bool × SV × PC × SL)}, rwL kp n cp ty cs = some l → ∀ c ∈ cs, ∃ s, (c.bad, c.v, c.pc, s) ∈ l ∧ (c.bad = false → hget n c.hp = some (.row .u64 s cp ty) ∧ keptX kp c.hp = true)
  | [], _, _, c, hc => by cases hc
  | d :: r, l, h, c, hc => by
    unfold rwL at h
    split at h
    · rename_i x l' hx hl
      cases h
      rcases List.mem_cons.1 hc with rfl | hc
      · unfold rw1 at hx
        split at hx
        · rename_i hb; cases hx; exact ⟨.nil, by simp [hb], fun h => by rw [hb] at h; cases h⟩
        · rename_i hb
          have hb : c.bad = false := by simpa using hb
          split at hx
          · rename_i l0 cp' ty' hg
            split at hx
            · rename_i he
              simp only [Bool.and_eq_true] at he
              cases hx
              rw [SI.beq_eq he.1.1, Nat.eq_of_beq_eq_true he.1.2] at hg
              exact ⟨l0, by simp [hb], fun _ => ⟨hg, he.2⟩⟩
            · cases hx
          · cases hx
      · obtain ⟨s, h1, h2⟩ := rwOf_mem hl c hc
        exact ⟨s, by simp [h1], h2⟩
    · cases h

/-- A base where two blocks are the walk's. -/
def base2 (w : World) (p q : Nat) : Base := ⟨w, fun k => k = p ∨ k = q⟩

theorem rw_calls {P : Program} {G : Type} {O : Orac} {I : In G} (pr : PR P) (oo : OOK P O I) {f : Nat} {args : List SV} {pc : PC} {hp : Heap} {kp : Option (Nat × List SV × Nat)} {n ty : Nat} {cp : SI} {l : List (Bool × SV × PC × SL)} (h : rwOf kp n cp ty (runX P O f args pc hp) = some l) (w : World) (p q : Nat) (ν : Env G) (ρ : Nat → Nat) (R : Ending → World → Prop) (hI : ν.I = I)
    (hpc : pcDen ν pc) (hw : HW (base2 w p q) ν ρ hp w) (hn : ∀ ρ' : Nat → Nat, (∀ m, out LO (LO + LO) m = true → ρ' m = ρ m) → ρ' n = q)
    (hc : ∀ x ∈ l, ∀ ν' ρ', Agree LO (LO + LO) ν ν' ρ ρ' → pcDen ν' x.2.2.1 → x.1 = false ∧ ∀ w' rest, w'.os = w.os → w'.tape = w.tape → w'.output = w.output → w.heap.size ≤ w'.heap.size → (∀ k, k < w.heap.size → k ≠ p → k ≠ q → w'.heap[k]? = w.heap[k]?) → (∀ m cs t, kp = some (m, cs, t) → w'.heap[ρ' m]? = some (.cells (denL ν' ρ' cs).toArray t (0, 0))) → w'.heap[q]? = some (rowObj (x.2.2.2.den ν') rest ty) → cp.den ν' = ((x.2.2.2.den ν').length + rest.length : Nat) → R (.returned (x.2.1.den ν' ρ')) w') : Calls P f (denL ν ρ args).toArray w R := by
  cases hr : runX P O f args pc hp with
  | none => rw [hr] at h; cases h
  | some cs =>
    rw [hr] at h
    have h : rwL kp n cp ty cs = some l := h
    refine runX_calls pr oo hr (base2 w p q) ν ρ w R hI hpc hw fun c hm ν' ρ' w' hag hp' => ?_
    obtain ⟨s, h1, h2⟩ := rwOf_mem h c hm
    obtain ⟨h3, h4⟩ := hc _ h1 ν' ρ' hag hp'
    refine ⟨h3, fun hw' => ?_⟩
    obtain ⟨rest, r1, r2, _⟩ := hw'.ints (hget_mem (h2 h3).1)
    have hq := hn ρ' hag.r
    rw [hq] at r1
    refine h4 w' rest hw'.os hw'.tape hw'.output hw'.size (fun k hk k1 k2 => hw'.kept k ?_) (fun m cs t hkp => ?_) r1 r2
    rotate_left
    · have hk := (h2 h3).2
      subst hkp
      simp only [keptX] at hk
      split at hk
      · rename_i b hb
        have := SBk.beq_eq hk
        subst this
        obtain ⟨r, e1, e2⟩ := hw'.row (hget_mem hb)
        rw [e2 rfl] at e1
        simpa using e1
      · cases hk
    simp only [base2, Base.own]
    intro hh
    rcases hh with hh | hh | hh
    · exact absurd hk (Nat.not_lt.2 hh)
    · exact k1 hh
    · exact k2 hh
end Go.Sy
end

section
namespace Go.Sy
open Go Go.RowKit

/-! ### contracts of calls that change nothing -/
/-- The leaves: may it be; the value; the path. -/
def lvOf : Option (List CLeaf) → Option (List (Bool × SV × PC))
  | some l => some (l.map fun c => (c.bad, c.v, c.pc))
  | none => none

theorem lv_calls {P : Program} {G : Type} {O : Orac} {I : In G} (pr : PR P) (oo : OOK P O I) {f : Nat} {args : List SV} {pc : PC} {hp : Heap} {l : List (Bool × SV × PC)} (h : lvOf (runX P O f args pc hp) = some l) (w : World) (ν : Env G) (ρ : Nat → Nat) (R : Ending → World → Prop) (hI : ν.I = I)
    (hpc : pcDen ν pc) (hw : HW (baseOf w) ν ρ hp w)
    (hc : ∀ x ∈ l, ∀ ν' ρ', Agree LO (LO + LO) ν ν' ρ ρ' → pcDen ν' x.2.2 → x.1 = false ∧ ∀ w', Below w.heap.size w w' → R (.returned (x.2.1.den ν' ρ')) w') : Calls P f (denL ν ρ args).toArray w R := by
  cases hr : runX P O f args pc hp with
  | none => rw [hr] at h; cases h
  | some cs =>
    rw [hr] at h
    simp only [lvOf, Option.some.injEq] at h
    refine runX_calls pr oo hr (baseOf w) ν ρ w R hI hpc hw fun c hm ν' ρ' w' hag hp' => ?_
    obtain ⟨h1, h2⟩ := hc (c.bad, c.v, c.pc) (by rw [← h]; exact List.mem_map.2 ⟨c, hm, rfl⟩) ν' ρ' hag hp'
    exact ⟨h1, fun hw' => h2 w' hw'.below⟩
end Go.Sy
end

section
namespace Go.Sy
open Go Go.RowKit

/-- Of function g: these leaves, where there are any; else as before. -/
def Orac.withCallF (O : Orac) (g : Nat) (k : Nat → List SV → PC → Heap → Option (List CLeaf)) : Orac :=
  { O with call := fun f lo args pc hp => if Nat.beq f g then (match k lo args pc hp with | some cs => some (some cs) | none => O.call f lo args pc hp) else O.call f lo args pc hp }

theorem withCallF_ok {P : Program} {G : Type} {O : Orac} {I : In G} (oo : OOK P O I) {g : Nat} {k : Nat → List SV → PC → Heap → Option (List CLeaf)} (h : OOK P (O.withCall g k) I) : OOK P (O.withCallF g k) I where
  op := h.op
  tail := h.tail
  order := h.order
  call := by
    intro f lo args pc hp cs ho
    unfold Orac.withCallF at ho
    simp only at ho
    split at ho
    · rename_i hb
      split at ho
      · rename_i cs' hk
        refine h.call ?_
        unfold Orac.withCall
        simp only
        rw [if_pos hb]
        rw [hk]
        exact ho
      · exact oo.call ho
    · exact oo.call ho
  loop := oo.loop

section
theorem inM_gl (f : Nat) (g : Gh) (x y : Int) : inM.gl f g x y = g.l := rfl
theorem inM_gb (g : Gh) (x y : Int) : inM.gb 0 g x y = g.o := rfl
theorem inM_gi0 (g : Gh) (x y : Int) : inM.gi 0 g x y = g.u := rfl
theorem inM_gi1 (g : Gh) (x y : Int) : inM.gi 1 g x y = g.c := rfl
theorem doX_den {ν : Env Gh} (hI : ν.I = inM) (k c a b : SI) (l : SL) : (doX k c a b l).den ν = doG (k.den ν) (c.den ν) (a.den ν) (b.den ν) (l.den ν) := by simp [doX, SG.den, hI, inM]
def lsX (l : SL) : SG := .app 1 (.var 0) (.var 0) (.lit 0) (.lit 0) (.lit 0) (.lit 0) l
theorem lsX_den {ν : Env Gh} (hI : ν.I = inM) (l : SL) : (lsX l).den ν = ghL (l.den ν) := by simp [lsX, SG.den, hI, inM]
theorem app2_den {ν : Env Gh} (hI : ν.I = inM) (g h : SG) (a b c d : SI) (l : SL) : (SG.app 2 g h a b c d l).den ν = ⟨0, 0, (g.den ν).l == (h.den ν).l, [], [], [], 0⟩ := by simp [SG.den, hI, inM]
theorem ghL_l (l : List Int) : (ghL l).l = l := rfl
end

/-- An access of an unknown kind. -/
def litKind : List SV → Bool
  | [_, .agg (.int _ (.lit _) :: _)] => true
  | _ => false
def doF (tyM tyR : Nat) (lo : Nat) (args : List SV) (pc : PC) (hp : Heap) : Option (List CLeaf) := if litKind args then none else doK tyM tyR lo args pc hp
theorem doF_ok {P : Program} {O : Orac} (oo : OOK P O inM) {g tyM tyR : Nat} (hc : DoC P g tyM tyR) : OOK P (O.withCallF g (doF tyM tyR)) inM := by
  have h := doK_ok oo hc
  refine withCallF_ok oo ⟨?_, oo.loop, oo.op, oo.tail, oo.order⟩
  intro f lo args pc hp cs ho
  refine h.call ?_
  revert ho
  unfold Orac.withCall
  simp only
  split
  · intro ho
    unfold doF at ho
    split at ho
    · cases ho
    · exact ho
  · exact id
end Go.Sy
end

section
namespace Go.Sy
open Go Go.RowKit Go.ChangeShapes Go.WideShapes Go.ChangeAt Go.Deep

section
variable {H : Type} {enc : TypeId × Value → H} {P : Program} {W : World}

theorem choose_quads {n : Nat} {R : Nat → (Int × Int × Int × Int) → Prop} (h : ∀ i, i < n → ∃ q, R i q) : ∃ qs : List (Int × Int × Int × Int), qs.length = n ∧ ∀ i q, qs[i]? = some q → R i q := by
  induction n with
  | zero => exact ⟨[], rfl, fun i q hq => by simp at hq⟩
  | succ n ih =>
    obtain ⟨qs, h1, h2⟩ := ih fun i hi => h i (by omega)
    obtain ⟨q, hq⟩ := h n (by omega)
    refine ⟨qs ++ [q], by simp [h1], fun i x hx => ?_⟩
    rw [List.getElem?_append] at hx
    split at hx
    · exact h2 i x hx
    · rename_i hlt
      have : i = n := by
        have := (List.getElem?_eq_some_iff.1 hx).1
        simp at this
        omega
      subst this
      simp [h1] at hx
      rw [← hx]; exact hq

/-- A slice of structs of four integers that came in. -/
theorem arg_quads {t e : TypeId} {f0 f1 f2 f3 : Field} {k0 k1 k2 k3 : IntKind} (ht : P.underlying t = some (.slice e)) (he : P.underlying e = some (.struct #[f0, f1, f2, f3])) (ce : P.cellsOf e = 4)
    (o0 : f0.offset = 0) (o1 : f1.offset = 1) (o2 : f2.offset = 2) (o3 : f3.offset = 3) (c0 : P.cellsOf f0.type = 1) (c1 : P.cellsOf f1.type = 1) (c2 : P.cellsOf f2.type = 1) (c3 : P.cellsOf f3.type = 1)
    (u0 : P.underlying f0.type = some (.int k0)) (u1 : P.underlying f1.type = some (.int k1)) (u2 : P.underlying f2.type = some (.int k2)) (u3 : P.underlying f3.type = some (.int k3))
    {r : Reach} {b0 : Nat} {v : Value} {d : DataW H} {ps : List MemPlace} (hok : Value.okWide P W r b0 t v) (h : DataW.Trod enc P W 0 (fun _ => true) true t v d ps) :
    v = .slice none 0 0 ∨ (∃ a, v = .slice (some a) 0 0) ∨ ∃ (g o cap : Nat) (qs : List (Int × Int × Int × Int)), v = .slice (some ⟨g, o, none⟩) qs.length cap ∧ g < W.heap.size ∧ qs.length ≤ cap ∧ cap ≤ maxLen ∧
      ∀ i q, qs[i]? = some q → W.cell? ⟨g, o + i * 4, none⟩ = some (.int k0 q.1) ∧ W.cell? ⟨g, o + (i * 4 + 1), none⟩ = some (.int k1 q.2.1) ∧ W.cell? ⟨g, o + (i * 4 + 2), none⟩ = some (.int k2 q.2.2.1) ∧ W.cell? ⟨g, o + (i * 4 + 3), none⟩ = some (.int k3 q.2.2.2) := by
  obtain ⟨a0, l0, cp, rfl⟩ := okWide_slice ht hok
  obtain ⟨fuel, hf⟩ := h
  rcases open_slice ht hf with ⟨hcs, _⟩ | ⟨a, len, cap, m, n, D, Pl, hcs, _, hl, hm, hmm, _, hx⟩
  · left; simpa [Value.cells] using hcs
  · right
    simp only [Value.cells, List.cons.injEq, Value.slice.injEq, and_true] at hcs
    obtain ⟨rfl, rfl, rfl⟩ := hcs
    simp only [if_true] at hmm
    subst hmm
    have each : ∀ i, i < m → ∃ q : Int × Int × Int × Int, W.cell? (a.add (i * 4)) = some (.int k0 q.1) ∧ W.cell? (a.add (i * 4 + 1)) = some (.int k1 q.2.1) ∧ W.cell? (a.add (i * 4 + 2)) = some (.int k2 q.2.2.1) ∧ W.cell? (a.add (i * 4 + 3)) = some (.int k3 q.2.2.2) := by
      intro i hi
      obtain ⟨cs', h1, h2⟩ := hx i hi
      rw [ce] at h1
      obtain ⟨_, hlen, hcell⟩ := World.cells?_some h1
      obtain ⟨xs, k, hk, hxy, _, hxl, hf⟩ := DataW.trod_struct he h2
      match xs, hxl, cs', hlen with
      | [y0, y1, y2, y3], _, [v0, v1, v2, v3], _ =>
        have g0 := hf 0 f0 rfl
        have g1 := hf 1 f1 rfl
        have g2 := hf 2 f2 rfl
        have g3 := hf 3 f3 rfl
        simp [o0, o1, o2, o3, c0, c1, c2, c3] at g0 g1 g2 g3
        obtain ⟨i0, r0, _⟩ := DataW.trod_int u0 g0
        obtain ⟨i1, r1, _⟩ := DataW.trod_int u1 g1
        obtain ⟨i2, r2, _⟩ := DataW.trod_int u2 g2
        obtain ⟨i3, r3, _⟩ := DataW.trod_int u3 g3
        have e0 := hcell 0 (by omega)
        have e1 := hcell 1 (by omega)
        have e2 := hcell 2 (by omega)
        have e3 := hcell 3 (by omega)
        rw [add_add] at e0 e1 e2 e3
        simp only [List.cons.injEq, and_true] at r0 r1 r2 r3
        subst r0 r1 r2 r3
        exact ⟨(i0, i1, i2, i3), by simpa using e0, by simpa using e1, by simpa using e2, by simpa using e3⟩
    rcases Nat.eq_zero_or_pos m with h0 | h0
    · left
      have : l0 = 0 := by omega
      subst h0 this
      exact ⟨a, rfl⟩
    · right
      obtain ⟨q0, z0, _⟩ := each 0 h0
      have hsp : a.spot = none := World.cell?_spot (a := a) (by simpa [Addr.add] using z0)
      obtain ⟨g, o, sp⟩ := a
      simp only at hsp
      subst hsp
      obtain ⟨qs, q1, q2⟩ := choose_quads (n := l0) (R := fun i q => W.cell? ((⟨g, o, none⟩ : Addr).add (i * 4)) = some (.int k0 q.1) ∧ W.cell? ((⟨g, o, none⟩ : Addr).add (i * 4 + 1)) = some (.int k1 q.2.1) ∧ W.cell? ((⟨g, o, none⟩ : Addr).add (i * 4 + 2)) = some (.int k2 q.2.2.1) ∧ W.cell? ((⟨g, o, none⟩ : Addr).add (i * 4 + 3)) = some (.int k3 q.2.2.2)) fun i hi => each i (by omega)
      refine ⟨g, o, m, qs, by rw [q1], World.block_lt_of_cell? W ⟨g, o, none⟩ (by simpa [Addr.add] using z0), by omega, hm, fun i q hq => ?_⟩
      simpa only [add_none] using q2 i q hq
end

/-- A table that came in. -/
theorem HW.addTab {G : Type} {B : Base} {ν : Env G} {ρ : Nat → Nat} {hp : Heap} {w : World} (h : HW B ν ρ hp w) {n f : Nat} {g : SG} {ks : List (Option IntKind)} {o len : SI} (hn : n ∉ hp.map (·.1)) (hno : ¬ B.own (ρ n)) (h0 : 0 ≤ o.den ν)
    (hc : ∀ (i j : Nat) k, i < (len.den ν).toNat → ks[j]? = some k → B.w0.cell? ⟨ρ n, (o.den ν).toNat + (i * ks.length + j), none⟩ = some (tabV ν.I (g.den ν) (f + j) i k)) : HW B ν ρ ((n, .tab f g ks o len) :: hp) w := by
  obtain ⟨F, h1, h2, h3⟩ := h.foot
  refine ⟨h.os, h.tape, h.output, h.size, h.kept, by simp only [List.map_cons, List.nodup_cons]; exact ⟨hn, h.nd⟩, fun m => if m = n then fun _ => False else F m, fun m b hm => ?_, fun m b j hm hj => ?_, fun m b m' b' j hm hm' hj hj' => ?_⟩
  · rcases List.mem_cons.1 hm with hm | hm
    · cases hm
      simp only [if_true, BlkDen]
      exact ⟨fun _ hf => hf, hno, h0, hc⟩
    · have : m ≠ n := fun e => hn (List.mem_map.2 ⟨_, hm, e⟩)
      simp only [this, if_false]
      exact h1 m b hm
  · rcases List.mem_cons.1 hm with hm | hm
    · cases hm; simp at hj
    · have : m ≠ n := fun e => hn (List.mem_map.2 ⟨_, hm, e⟩)
      simp only [this, if_false] at hj
      exact h2 m b j hm hj
  · rcases List.mem_cons.1 hm with hm | hm
    · cases hm; simp at hj
    · have e : m ≠ n := fun e => hn (List.mem_map.2 ⟨_, hm, e⟩)
      rcases List.mem_cons.1 hm' with hm' | hm'
      · cases hm'; simp at hj'
      · have e' : m' ≠ n := fun e => hn (List.mem_map.2 ⟨_, hm', e⟩)
        simp only [e, e', if_false] at hj hj'
        exact h3 m b m' b' j hm hm' hj hj'
end Go.Sy
end

section
namespace Go.Sy
open Go Go.RowKit

section
variable {P : Program} {G : Type} {O : Orac} {I : In G}
/-- Of the loop at site s of function g, entered with this frame and this heap: these leaves; else as before. -/
def Orac.withLoopF (O : Orac) (g s nm0 : Nat) (fr0 : List SV) (hp0 : Heap) (mk : PC → List Leaf) : Orac :=
  { O with loop := fun f t nm fr pc hp => if Nat.beq f g && Nat.beq t s && (Nat.beq nm nm0 && beqL fr fr0 && leafBeq.hB hp hp0) then some (some (mk pc)) else O.loop f t nm fr pc hp }
theorem withLoopF_ok (oo : OOK P O I) {g s nm0 : Nat} {fr0 : List SV} {hp0 : Heap} {mk : PC → List Leaf} (h : OOK P (O.withLoop g s nm0 fr0 hp0 mk) I) : OOK P (O.withLoopF g s nm0 fr0 hp0 mk) I where
  call := oo.call
  op := oo.op
  tail := oo.tail
  order := oo.order
  loop := by
    intro f nm a fr pc hp ls hpart ho
    unfold Orac.withLoopF at ho
    simp only at ho
    split at ho
    · rename_i hb
      refine h.loop hpart ?_
      unfold Orac.withLoop
      simp only
      simp only [Bool.and_eq_true] at hb
      rw [if_pos (by simp only [Bool.and_eq_true]; exact hb.1), if_pos (by simp only [Bool.and_eq_true]; exact hb.2)]
      exact ho
    · exact oo.loop hpart ho

/-! ### a loop that counts up to a bound and fills one row, of whose words nothing is said -/
def setNL {G : Type} (ν : Env G) (n : Nat) (x : Int) (l : List Int) : Env G := { ν with i := fun m => if m = n then x else ν.i m, l := fun m => if m = n then l else ν.l m }
theorem setNL_agree {G : Type} (ν : Env G) (ρ : Nat → Nat) (n : Nat) (x : Int) (l : List Int) : Agree n (n + 64) ν (setNL ν n x l) ρ ρ := by
  have h : ∀ m, out n (n + 64) m = true → m ≠ n := fun m hm => by
    unfold out at hm
    simp only [Bool.or_eq_true, Nat.ble_eq] at hm
    omega
  exact ⟨rfl, fun _ _ => rfl, fun m hm => by simp [setNL, h m hm], fun _ _ => rfl, fun _ _ => rfl, fun m hm => by simp [setNL, h m hm], fun _ _ => rfl, fun _ _ => rfl⟩
theorem setNL_i {G : Type} (ν : Env G) (n : Nat) (x : Int) (l : List Int) : (setNL ν n x l).i n = x := by simp [setNL]
theorem setNL_l {G : Type} (ν : Env G) (n : Nat) (x : Int) (l : List Int) : (setNL ν n x l).l n = l := by simp [setNL]

def frH (nm ci : Nat) (L : Leaf) : List SV := deadUndef (L.fr.set ci (.int .i64 (.var nm)))
def hpH (nm si : Nat) (L : Leaf) : Heap := setRow (fget L.fr si) (.var nm) L.hp
def pcH (nm : Nat) : PC := [(.lt (.var nm) (.lit 0), false)]
def tgH (nm ci si e : Nat) (N : SI) (L : Leaf) : List Tgt := [⟨.exit e, frH nm ci L, hpH nm si L, [(.eq (.len (.var nm)) N, true)]⟩]
def badH (N : SI) (l0 : SL) : PC := [(.eq (.len l0) N, false), (.lt (.lit 9223372036854775807) N, true)]
def sumsH (nm e : Nat) (N x : SI) : List Sum := [
  ⟨.bad, [], [], (.lt (.var nm) (.len (.var nm)), false) :: (.lt (.var nm) N, true) :: pcH nm⟩,
  ⟨.normal, [(.int .i64 (.wrap .i64 (.add (.var nm) (.lit 1))), .int .i64 (.var nm))], [(.set (.var nm) (.var nm) x, .var nm)], (.lt (.var nm) (.len (.var nm)), true) :: (.lt (.var nm) N, true) :: pcH nm⟩,
  ⟨.exit e, [(.int .i64 (.var nm), .int .i64 (.var nm))], [(.var nm, .var nm)], (.lt (.var nm) N, false) :: pcH nm⟩]

theorem havoc_ok (pr : PR P) (oo : OOK P O I) {f s nm ci si e : Nat} (on : out (2^700) (2^700 + 2^650) nm = true) {L : Leaf} {N x : SI} {l0 : SL} (h1 : (loopsAt P f s).length = 1)
    (hbody : (codeX P O (2^700) (2^650) f 6000 0 (loopAt P f s) (frH nm ci L) (pcH nm) (hpH nm si L)).bind (sumsM nm (2^700) (2^650) (⟨.normal, frH nm ci L, hpH nm si L, pcH nm⟩ :: tgH nm ci si e N L)) = some (sumsH nm e N x))
    (hst : diffX (fun v => v.av nm (nm + 64)) L.fr (frH nm ci L) = some [(.int .i64 (.lit 0), .int .i64 (.var nm))])
    (hsl : diffH (fun m => out nm (nm + 64) m) (fun b => b.av nm (nm + 64)) L.hp (hpH nm si L) = some [(l0, .var nm)])
    (hN : N.av nm (nm + 64) = true) (hN2 : N.av (2^700) (2^700 + 2^650) = true) {O' : Orac} (oo' : OOK P O' I) :
    OOK P (O'.withLoopF f s nm L.fr L.hp (mkM nm (tgH nm ci si e N L) (badH N l0))) I := by
  have hbads : ∀ {ν : Env G}, (∀ x ∈ badH N l0, x.1.den ν ≠ x.2) → ((l0.den ν).length : Int) = N.den ν ∧ N.den ν ≤ 9223372036854775807 := by
    intro ν h
    simp only [badH, List.mem_cons, List.not_mem_nil, or_false, forall_eq_or_imp, forall_eq, SB.den, ne_eq, decide_eq_true_eq, beq_eq_false_iff_ne, Decidable.not_not] at h
    simp only [SI.den] at h
    omega
  have hpcI : ∀ {ν1 : Env G}, 0 ≤ ν1.i nm → pcDen ν1 (pcH nm) := by
    intro ν1 h0
    simp only [pcH, pcDen_cons_iff, pcDen_nil_iff, SB.den, decide_eq_false_iff_not]
    simp only [SI.den]
    exact ⟨by omega, trivial⟩
  have wrapS : ∀ x : Int, -9223372036854775808 ≤ x → x ≤ 9223372036854775807 → IntKind.i64.wrap x = x := fun x h1 h2 => by rw [IntKind.wrap_i64]; omega
  refine withLoopF_ok oo' (loopM_ok pr oo h1 hbody hst hsl
    (fun ν ν1 => 0 ≤ ν1.i nm ∧ ν1.i nm ≤ N.den ν ∧ ((ν1.l nm).length : Int) = N.den ν) (fun ν ν1 => (N.den ν - ν1.i nm).toNat) ?_ ?_ oo')
  · intro ν ρ hI hb
    obtain ⟨b1, b2⟩ := hbads hb
    have ha := setNL_agree ν ρ nm 0 (l0.den ν)
    refine ⟨_, ha, ⟨by rw [setNL_i]; omega, by rw [setNL_i]; omega, by rw [setNL_l]; exact b1⟩, hpcI (by rw [setNL_i]; omega), fun y hy => ?_, fun y hy => ?_⟩
    · simp only [List.mem_cons, List.not_mem_nil, or_false] at hy
      subst hy
      simp only [SV.den, SI.den, setNL_i]
    · simp only [List.mem_cons, List.not_mem_nil, or_false] at hy
      subst hy
      simp only [SL.den, setNL_l]
  · intro t ht ν ρ ν1 ν2 ρ2 hI hb a1 hJ _ a2 hp2
    obtain ⟨b1, b2⟩ := hbads hb
    obtain ⟨j1, j2, j3⟩ := hJ
    have eN : N.den ν2 = N.den ν := (SI.den_agree a2 N hN2).trans (SI.den_agree a1 N hN)
    have ek : ν2.i nm = ν1.i nm := a2.i nm on
    have el : ν2.l nm = ν1.l nm := a2.l nm on
    have ha3 : ∀ x l, Agree nm (nm + 64) ν (setNL ν nm x l) ρ ρ := fun x l => setNL_agree ν ρ nm x l
    simp only [sumsH, List.mem_cons, List.not_mem_nil, or_false] at ht
    rcases ht with rfl | rfl | rfl
    · simp only [pcDen_cons_iff, SB.den, decide_eq_true_eq, decide_eq_false_iff_not] at hp2
      simp only [SI.den, SL.den, eN, ek, el] at hp2
      exfalso
      omega
    · simp only [pcDen_cons_iff, SB.den, decide_eq_true_eq, decide_eq_false_iff_not] at hp2
      simp only [SI.den, SL.den, eN, ek, el] at hp2
      refine ⟨setNL ν nm (ν1.i nm + 1) ((ν1.l nm).set (ν1.i nm).toNat (x.den ν2)), ha3 _ _, ⟨by rw [setNL_i]; omega, by rw [setNL_i]; omega, by rw [setNL_l, List.length_set]; exact j3⟩, hpcI (by rw [setNL_i]; omega), by rw [setNL_i]; omega, fun y hy => ?_, fun y hy => ?_⟩
      · simp only [List.mem_cons, List.not_mem_nil, or_false] at hy
        subst hy
        simp only [SV.den, SI.den, ek, setNL_i]
        rw [wrapS _ (by omega) (by omega)]
      · simp only [List.mem_cons, List.not_mem_nil, or_false] at hy
        subst hy
        simp only [SL.den, SI.den, ek, el, setNL_l]
    · simp only [pcDen_cons_iff, SB.den, decide_eq_true_eq, decide_eq_false_iff_not] at hp2
      simp only [SI.den, SL.den, eN, ek, el] at hp2
      refine ⟨setNL ν nm (ν1.i nm) (ν1.l nm), ha3 _ _, fun t ht he => ?_, fun y hy => ?_, fun y hy => ?_⟩
      · simp only [tgH, List.mem_cons, List.not_mem_nil, or_false] at ht
        subst ht
        refine pcDen_one ?_
        simp only [SB.den, beq_iff_eq]
        simp only [SI.den, SL.den, setNL_l, SI.den_agree (ha3 _ _) N hN]
        exact j3
      · simp only [List.mem_cons, List.not_mem_nil, or_false] at hy
        subst hy
        simp only [SV.den, SI.den, ek, setNL_i]
      · simp only [List.mem_cons, List.not_mem_nil, or_false] at hy
        subst hy
        simp only [SL.den, el, setNL_l]
end
end Go.Sy
end

section
namespace Go.Sy
open Go Go.RowKit

/-! ### contracts of calls that hand back a new row -/
def fresh1 (tyR : Nat) (c : CLeaf) : Option (Bool × PC × SI × SL) :=
  if c.bad then some (true, c.pc, .lit 0, .nil) else match c.v with
    | .sl b o n cp => match hget b c.hp with
      | some (.row k l cp' ty) => if kBeq k .u64 && o.beq (.lit 0) && cp.beq n && cp'.beq n && Nat.beq ty tyR then some (false, c.pc, n, l) else none
      | _ => none
    | _ => none
def freshL (tyR : Nat) : List CLeaf → Option (List (Bool × PC × SI × SL))
  | [] => some []
  | c :: r => match fresh1 tyR c, freshL tyR r with
    | some x, some l => some (x :: l)
    | _, _ => none
def freshOf (tyR : Nat) (o : Option (List CLeaf)) : Option (List (Bool × PC × SI × SL)) := o.bind (freshL tyR)
theorem freshL_mem {tyR : Nat} : ∀ {cs : List CLeaf} {l : List (Bool × PC × SI × SL)}, freshL tyR cs = some l → ∀ c ∈ cs, ∃ x ∈ l, fresh1 tyR c = some x
  | [], _, _, c, hc => by cases hc
  | d :: r, l, h, c, hc => by
    unfold freshL at h
    split at h
    · rename_i x l' hx hl
      cases h
      rcases List.mem_cons.1 hc with rfl | hc
      · exact ⟨x, by simp, hx⟩
      · obtain ⟨y, hy, he⟩ := freshL_mem hl c hc
        exact ⟨y, by simp [hy], he⟩
    · cases h

theorem fresh_calls {P : Program} {O : Orac} (pr : PR P) (oo : OOK P O inM) {f tyR : Nat} {args : List SV} {pc : PC} {l : List (Bool × PC × SI × SL)} (h : freshOf tyR (runX P O f args pc []) = some l) (w : World) (ν : Env Gh) (ρ : Nat → Nat) (R : Ending → World → Prop) (hI : ν.I = inM) (hpc : pcDen ν pc)
    (hc : ∀ x ∈ l, ∀ ν' : Env Gh, (∀ n, out LO (LO + LO) n = true → ν'.i n = ν.i n) → ν'.I = inM → pcDen ν' x.2.1 → x.1 = false ∧ ∀ w' k rest, Below w.heap.size w w' → w.heap.size ≤ k → w'.heap[k]? = some (rowObj (x.2.2.2.den ν') rest tyR) → x.2.2.1.den ν' = ((x.2.2.2.den ν').length + rest.length : Nat) →
      R (.returned (.slice (some ⟨k, 0, none⟩) (x.2.2.1.den ν').toNat (x.2.2.1.den ν').toNat)) w') : Calls P f (denL ν ρ args).toArray w R := by
  cases hr : runX P O f args pc [] with
  | none => rw [hr] at h; cases h
  | some cs =>
    rw [hr] at h
    have h : freshL tyR cs = some l := h
    refine runX_calls pr oo hr (baseOf w) ν ρ w R hI hpc (HW.empty _ _ _) fun c hm ν' ρ' w' hag hp' => ?_
    obtain ⟨x, hx, h1⟩ := freshL_mem h c hm
    unfold fresh1 at h1
    split at h1
    · rename_i hb
      cases h1
      have := (hc _ hx ν' hag.i (hag.I.trans hI) hp').1
      cases this
    · rename_i hb
      have hb : c.bad = false := by simpa using hb
      split at h1
      · rename_i b o n cp hv
        split at h1
        · rename_i k l' cp' ty hg
          split at h1
          · rename_i hk
            simp only [Bool.and_eq_true] at hk
            have e1 := kBeq_eq hk.1.1.1.1
            have e2 := SI.beq_eq hk.1.1.1.2
            have e3 := SI.beq_eq hk.1.1.2
            have e4 := SI.beq_eq hk.1.2
            have e5 := Nat.eq_of_beq_eq_true hk.2
            subst e1 e2 e3 e4 e5
            cases h1
            obtain ⟨_, h2⟩ := hc _ hx ν' hag.i (hag.I.trans hI) hp'
            refine ⟨hb, fun hw' => ?_⟩
            obtain ⟨rest, r1, r2, _⟩ := hw'.ints (hget_mem hg)
            obtain ⟨F, f1, f2, f3⟩ := hw'.foot
            have hown := f2 _ _ (ρ' b) (hget_mem hg) ((BlkDen.single (b := .row .u64 l' cp' ty) trivial (f1 _ _ (hget_mem hg)) (ρ' b)).2 rfl)
            rw [baseOf_own] at hown
            have := h2 w' (ρ' b) rest hw'.below hown r1 r2
            rw [hv]
            simp only [SV.den, SI.den]
            exact this
          · cases h1
        · cases h1
      · cases h1

def FreshC (P : Program) (g tyR : Nat) (args : List Value) (xs : List Int) : Prop := ∀ w : World, Calls P g args.toArray w fun e w' => ∃ k, e = .returned (.slice (some ⟨k, 0, none⟩) xs.length xs.length) ∧ w.heap.size ≤ k ∧ w'.heap[k]? = some (rowObj xs [] tyR) ∧ Below w.heap.size w w'

theorem prune_den {ν : Env Gh} {pc bs : PC} (hpc : pcDen ν pc) (h : ∀ x ∈ prune pc bs, x.1.den ν ≠ x.2) : ∀ x ∈ bs, x.1.den ν ≠ x.2 := fun x hx => by
  cases hk : x.1.known pc with
  | none => exact h x (List.mem_filter.2 ⟨hx, by simp [hk]⟩)
  | some v =>
    cases hb : bBeq v x.2 with
    | true => exact h x (List.mem_filter.2 ⟨hx, by simp [hk, hb]⟩)
    | false =>
      have h2 := SB.known_den hpc hk
      intro e
      rw [h2.symm.trans e] at hb
      cases hx2 : x.2 <;> rw [hx2] at hb <;> simp [bBeq] at hb
def freshK (tyR lo : Nat) (l : SL) (n : SI) (bs : PC) (pc : PC) (hp : Heap) : Option (List CLeaf) :=
  if hav lo (lo + 1) hp && pav lo (lo + 1) pc && l.av lo (lo + 1) && n.av lo (lo + 1) then some (⟨false, .sl lo (.lit 0) n n, pc, hadd lo (.row .u64 l n tyR) hp⟩ :: (prune pc bs).map (bad1 pc)) else none
theorem freshK_ok {P : Program} {tyR lo sz : Nat} {l : SL} {n : SI} {bs pc : PC} {hp : Heap} {cs : List CLeaf} (h : freshK tyR lo l n bs pc hp = some cs) (hsz : 64 ≤ sz) {g : Nat} {vargs : List Value} {xs : List Int} {B : Base} {ν : Env Gh} {ρ : Nat → Nat} {w : World} {R : Ending → World → Prop} (hpc : pcDen ν pc) (hw : HW B ν ρ hp w)
    (hl : ∀ c ∈ cs, ∀ ν' ρ' w', Agree lo (lo + sz) ν ν' ρ ρ' → pcDen ν' c.pc → c.bad = false ∧ (HW B ν' ρ' c.hp w' → R (.returned (c.v.den ν' ρ')) w'))
    (hc : (∀ x ∈ bs, x.1.den ν ≠ x.2) → FreshC P g tyR vargs xs ∧ l.den ν = xs ∧ n.den ν = (xs.length : Int) ∧ xs.length ≤ 9223372036854775807) : Calls P g vargs.toArray w R := by
  unfold freshK at h
  split at h
  · rename_i hk
    simp only [Bool.and_eq_true] at hk
    obtain ⟨⟨⟨k1, k2⟩, k3⟩, k4⟩ := hk
    cases h
    have hb := prune_den hpc (bads_ok hpc hl (bs := prune pc bs) (fun x hx => List.mem_cons_of_mem _ (List.mem_map.2 ⟨x, hx, rfl⟩)))
    obtain ⟨c1, c2, c3, c4⟩ := hc hb
    refine (c1 w).mono fun e w' ⟨k, he, hkk, hh, hbel⟩ => ?_
    subst he
    have hag := agree_upd (ν := ν) (ρ := ρ) lo k
    have hm := hl _ (List.mem_cons_self ..) ν (upd ρ lo k) w' (hag.mono (Nat.ble_eq_true_of_le (Nat.le_refl _)) (Nat.ble_eq_true_of_le (by omega))) hpc
    have e1 : upd ρ lo k lo = k := by simp [upd]
    have hw2 := hw.put (n := lo) (k := k) (b := .row .u64 l n tyR) (w' := w') hag k1 hbel.os hbel.tape hbel.output hbel.size (.inl (Nat.le_trans hw.size hkk))
      (by
        obtain ⟨F, f1, f2, f3⟩ := hw.foot
        exact ⟨F, f1, f2, f3, fun m c hm hF => by have := BlkDen.lt (f1 m c hm) hF; omega⟩)
      (fun j _ hj => hbel.block j hj)
      (by
        simp only [BlkDen]
        rw [e1]
        refine ⟨⟨[], by rw [c2]; exact hh, by rw [c2, c3]; simp, by rw [c3]; omega⟩, fun _ => Iff.rfl⟩)
      (fun j hj => by
        have hlt : j < w.heap.size := by
          rcases Nat.lt_or_ge j w.heap.size with h | h
          · exact h
          · exact absurd (.inl (Nat.le_trans hw.size h)) hj
        exact hbel.block j hlt)
    have := hm.2 hw2
    simp only [SV.den, SI.den, e1, c3, Int.toNat_natCast] at this
    exact this
  · cases h
end Go.Sy
end

section
namespace Go.Sy
open Go Go.RowKit

/-! ### contracts of calls that hand back a new row that may have room -/
def freshD1 (tyR : Nat) (c : CLeaf) : Option (Bool × PC × SI × SL × SI) :=
  if c.bad then some (true, c.pc, .lit 0, .nil, .lit 0) else match c.v with
    | .sl b o n cp => match hget b c.hp with
      | some (.row k l cp' ty) => if kBeq k .u64 && o.beq (.lit 0) && cp'.beq cp && Nat.beq ty tyR then some (false, c.pc, n, l, cp) else none
      | _ => none
    | _ => none
def freshDL (tyR : Nat) : List CLeaf → Option (List (Bool × PC × SI × SL × SI))
  | [] => some []
  | c :: r => match freshD1 tyR c, freshDL tyR r with
    | some x, some l => some (x :: l)
    | _, _ => none
def freshDOf (tyR : Nat) (o : Option (List CLeaf)) : Option (List (Bool × PC × SI × SL × SI)) := o.bind (freshDL tyR)
theorem freshDL_mem {tyR : Nat} : ∀ {cs : List CLeaf} {l : List (Bool × PC × SI × SL × SI)}, freshDL tyR cs = some l → ∀ c ∈ cs, ∃ x ∈ l, freshD1 tyR c = some x
  | [], _, _, c, hc => by cases hc
  | d :: r, l, h, c, hc => by
    unfold freshDL at h
    split at h
    · rename_i x l' hx hl
      cases h
      rcases List.mem_cons.1 hc with rfl | hc
      · exact ⟨x, by simp, hx⟩
      · obtain ⟨y, hy, he⟩ := freshDL_mem hl c hc
        exact ⟨y, by simp [hy], he⟩
    · cases h

theorem freshD_calls {P : Program} {O : Orac} (pr : PR P) (oo : OOK P O inM) {f tyR : Nat} {args : List SV} {pc : PC} {l : List (Bool × PC × SI × SL × SI)} (h : freshDOf tyR (runX P O f args pc []) = some l) (w : World) (ν : Env Gh) (ρ : Nat → Nat) (R : Ending → World → Prop) (hI : ν.I = inM) (hpc : pcDen ν pc)
    (hc : ∀ x ∈ l, ∀ ν' : Env Gh, (∀ n, out LO (LO + LO) n = true → ν'.i n = ν.i n) → ν'.I = inM → pcDen ν' x.2.1 → x.1 = false ∧ ∀ w' k rest, Below w.heap.size w w' → w.heap.size ≤ k → w'.heap[k]? = some (rowObj (x.2.2.2.1.den ν') rest tyR) → x.2.2.2.2.den ν' = ((x.2.2.2.1.den ν').length + rest.length : Nat) → x.2.2.2.2.den ν' ≤ 9223372036854775807 →
      R (.returned (.slice (some ⟨k, 0, none⟩) (x.2.2.1.den ν').toNat (x.2.2.2.2.den ν').toNat)) w') : Calls P f (denL ν ρ args).toArray w R := by
  cases hr : runX P O f args pc [] with
  | none => rw [hr] at h; cases h
  | some cs =>
    rw [hr] at h
    have h : freshDL tyR cs = some l := h
    refine runX_calls pr oo hr (baseOf w) ν ρ w R hI hpc (HW.empty _ _ _) fun c hm ν' ρ' w' hag hp' => ?_
    obtain ⟨x, hx, h1⟩ := freshDL_mem h c hm
    unfold freshD1 at h1
    split at h1
    · rename_i hb
      cases h1
      have := (hc _ hx ν' hag.i (hag.I.trans hI) hp').1
      cases this
    · rename_i hb
      have hb : c.bad = false := by simpa using hb
      split at h1
      · rename_i b o n cp hv
        split at h1
        · rename_i k l' cp' ty hg
          split at h1
          · rename_i hk
            simp only [Bool.and_eq_true] at hk
            have e1 := kBeq_eq hk.1.1.1
            have e2 := SI.beq_eq hk.1.1.2
            have e4 := SI.beq_eq hk.1.2
            have e5 := Nat.eq_of_beq_eq_true hk.2
            subst e1 e2 e4 e5
            cases h1
            obtain ⟨_, h2⟩ := hc _ hx ν' hag.i (hag.I.trans hI) hp'
            refine ⟨hb, fun hw' => ?_⟩
            obtain ⟨rest, r1, r2, r3⟩ := hw'.ints (hget_mem hg)
            obtain ⟨F, f1, f2, f3⟩ := hw'.foot
            have hown := f2 _ _ (ρ' b) (hget_mem hg) ((BlkDen.single (b := .row .u64 l' cp' ty) trivial (f1 _ _ (hget_mem hg)) (ρ' b)).2 rfl)
            rw [baseOf_own] at hown
            have := h2 w' (ρ' b) rest hw'.below hown r1 r2 r3
            rw [hv]
            simp only [SV.den, SI.den]
            exact this
          · cases h1
        · cases h1
      · cases h1

def FreshD (P : Program) (g tyR : Nat) (args : List Value) (xs : List Int) : Prop := ∀ w : World, Calls P g args.toArray w fun e w' => ∃ (k : Nat) (rest : List Value), e = .returned (.slice (some ⟨k, 0, none⟩) xs.length (xs.length + rest.length)) ∧ w.heap.size ≤ k ∧ w'.heap[k]? = some (rowObj xs rest tyR) ∧ xs.length + rest.length ≤ 9223372036854775807 ∧ Below w.heap.size w w'

def freshDK (tyR lo : Nat) (l : SL) (n : SI) (bs : PC) (pc : PC) (hp : Heap) : Option (List CLeaf) :=
  if hav lo (lo + 1) hp && pav lo (lo + 1) pc && l.av lo (lo + 1) && n.av lo (lo + 1) then some (⟨false, .sl lo (.lit 0) n (.var lo), pc, hadd lo (.row .u64 l (.var lo) tyR) hp⟩ :: (prune pc bs).map (bad1 pc)) else none
theorem freshDK_ok {P : Program} {tyR lo sz : Nat} {l : SL} {n : SI} {bs pc : PC} {hp : Heap} {cs : List CLeaf} (h : freshDK tyR lo l n bs pc hp = some cs) (hsz : 64 ≤ sz) {g : Nat} {vargs : List Value} {xs : List Int} {B : Base} {ν : Env Gh} {ρ : Nat → Nat} {w : World} {R : Ending → World → Prop} (hpc : pcDen ν pc) (hw : HW B ν ρ hp w)
    (hl : ∀ c ∈ cs, ∀ ν' ρ' w', Agree lo (lo + sz) ν ν' ρ ρ' → pcDen ν' c.pc → c.bad = false ∧ (HW B ν' ρ' c.hp w' → R (.returned (c.v.den ν' ρ')) w'))
    (hc : (∀ x ∈ bs, x.1.den ν ≠ x.2) → FreshD P g tyR vargs xs ∧ l.den ν = xs ∧ n.den ν = (xs.length : Int)) : Calls P g vargs.toArray w R := by
  unfold freshDK at h
  split at h
  · rename_i hk
    simp only [Bool.and_eq_true] at hk
    obtain ⟨⟨⟨k1, k2⟩, k3⟩, k4⟩ := hk
    cases h
    have hb := prune_den hpc (bads_ok hpc hl (bs := prune pc bs) (fun x hx => List.mem_cons_of_mem _ (List.mem_map.2 ⟨x, hx, rfl⟩)))
    obtain ⟨c1, c2, c3⟩ := hc hb
    refine (c1 w).mono fun e w' ⟨k, rest, he, hkk, hh, hmax, hbel⟩ => ?_
    subst he
    have hag := agree_updI (ν := ν) (ρ := ρ) lo k ((xs.length + rest.length : Nat) : Int)
    have hv : (ν.updI lo ((xs.length + rest.length : Nat) : Int)).i lo = ((xs.length + rest.length : Nat) : Int) := by simp [Env.updI]
    have hm := hl _ (List.mem_cons_self ..) (ν.updI lo ((xs.length + rest.length : Nat) : Int)) (upd ρ lo k) w' (hag.mono (Nat.ble_eq_true_of_le (Nat.le_refl _)) (Nat.ble_eq_true_of_le (by omega))) (pcDen_agree hag k2 hpc)
    have e1 : upd ρ lo k lo = k := by simp [upd]
    have e2 := SL.den_agree hag l k3
    have e3 := SI.den_agree hag n k4
    have hw2 := hw.put (n := lo) (k := k) (b := .row .u64 l (.var lo) tyR) (w' := w') hag k1 hbel.os hbel.tape hbel.output hbel.size (.inl (Nat.le_trans hw.size hkk))
      (by
        obtain ⟨F, f1, f2, f3⟩ := hw.foot
        exact ⟨F, f1, f2, f3, fun m c hm hF => by have := BlkDen.lt (f1 m c hm) hF; omega⟩)
      (fun j _ hj => hbel.block j hj)
      (by
        simp only [BlkDen, SI.den]
        rw [e1, hv]
        refine ⟨⟨rest, by rw [e2, c2]; exact hh, by rw [e2, c2], by omega⟩, fun _ => Iff.rfl⟩)
      (fun j hj => by
        have hlt : j < w.heap.size := by
          rcases Nat.lt_or_ge j w.heap.size with h | h
          · exact h
          · exact absurd (.inl (Nat.le_trans hw.size h)) hj
        exact hbel.block j hlt)
    have := hm.2 hw2
    simp only [SV.den, SI.den, e1, e3, c3, hv, Int.toNat_natCast] at this
    exact this
  · cases h
end Go.Sy
end

section
namespace Go.Sy
open Go Go.RowKit

/-! ### loops whose rows may move (append): a head's block is named by the slot of its slice -/
def blkAt (fr : List SV) (t : Nat) : Option Nat := match fr[t]? with
  | some (.sl b _ _ _) => some b
  | _ => none
/-- The slot of a name that may move. -/
def slotOf : List (Nat × Nat) → Nat → Option Nat
  | [], _ => none
  | (m, t) :: r, n => if Nat.beq m n then some t else slotOf r n
def sig (ren : List (Nat × Nat)) (fr : List SV) (m : Nat) : Nat := match slotOf ren m with
  | some t => (blkAt fr t).getD m
  | none => m
def renR (ren : List (Nat × Nat)) (fr : List SV) (ρ ρ2 : Nat → Nat) (m : Nat) : Nat := match slotOf ren m with
  | some _ => ρ2 (sig ren fr m)
  | none => ρ m

def siD (ok : SI → Bool) (a b : SI) : List (SI × SI) := if a.beq b && ok a then [] else [(a, b)]
def okSI (nm lo sz : Nat) (a : SI) : Bool := a.av nm (nm + 64) && a.av lo (lo + sz)

/-- The slots that part: other values; numbers of slices that moved. -/
def diffF (ok : SV → Bool) (oki : SI → Bool) (ren : List (Nat × Nat)) (fr0 : List SV) : List SV → List SV → Option (List (SV × SV) × List (SI × SI))
  | [], [] => some ([], [])
  | u :: us, v :: vs => match diffF ok oki ren fr0 us vs with
    | none => none
    | some (d, i) => if v.isDead then some (d, i) else if u.beq v && ok v then some (d, i) else if u.isDead then none else match u, v with
      | .sl b o n c, .sl b' o' n' c' => if (slotOf ren b').isSome && Nat.beq (sig ren fr0 b') b then some (d, siD oki o o' ++ (siD oki n n' ++ (siD oki c c' ++ i))) else some ((u, v) :: d, i)
      | _, _ => some ((u, v) :: d, i)
  | _, _ => none

section
variable {G : Type}
theorem siD_den {ok : SI → Bool} {ν ν' : Env G} (hok : ∀ a, ok a = true → a.den ν = a.den ν') {a b : SI} (h : ∀ y ∈ siD ok a b, y.1.den ν = y.2.den ν') : a.den ν = b.den ν' := by
  unfold siD at h
  split at h
  · rename_i hb
    simp only [Bool.and_eq_true] at hb
    rw [← SI.beq_eq hb.1]
    exact hok a hb.2
  · exact h (a, b) (by simp)

theorem diffF_den {ok : SV → Bool} {oki : SI → Bool} {ren : List (Nat × Nat)} {fr0 : List SV} {ν ν' : Env G} {ρ ρ2 : Nat → Nat} (hok : ∀ v, ok v = true → v.den ν ρ2 = v.den ν' (renR ren fr0 ρ ρ2)) (hoki : ∀ a, oki a = true → a.den ν = a.den ν') :
    ∀ {us vs : List SV} {d : List (SV × SV)} {i : List (SI × SI)}, diffF ok oki ren fr0 us vs = some (d, i) → (∀ x ∈ d, x.1.den ν ρ2 = x.2.den ν' (renR ren fr0 ρ ρ2)) → (∀ x ∈ i, x.1.den ν = x.2.den ν') →
    us.length = vs.length ∧ ∀ (t : Nat) (v : SV), vs[t]? = some v → v.isDead = false → ∃ u, us[t]? = some u ∧ u.isDead = false ∧ u.den ν ρ2 = v.den ν' (renR ren fr0 ρ ρ2)
  | [], [], _, _, _, _, _ => ⟨rfl, fun t v h => by simp at h⟩
  | [], _ :: _, _, _, h, _, _ => by simp [diffF] at h
  | _ :: _, [], _, _, h, _, _ => by simp [diffF] at h
  | u :: us, v :: vs, d, i, h, hd, hi => by
    unfold diffF at h
    split at h
    · cases h
    · rename_i d0 i0 h0
      have key : (∀ x ∈ d0, x.1.den ν ρ2 = x.2.den ν' (renR ren fr0 ρ ρ2)) → (∀ x ∈ i0, x.1.den ν = x.2.den ν') → (v.isDead = false → u.isDead = false ∧ u.den ν ρ2 = v.den ν' (renR ren fr0 ρ ρ2)) → (u :: us).length = (v :: vs).length ∧ ∀ (t : Nat) (x : SV), (v :: vs)[t]? = some x → x.isDead = false → ∃ y, (u :: us)[t]? = some y ∧ y.isDead = false ∧ y.den ν ρ2 = x.den ν' (renR ren fr0 ρ ρ2) := by
        intro hd0 hi0 hv
        obtain ⟨e1, e2⟩ := diffF_den hok hoki h0 hd0 hi0
        refine ⟨by simp [e1], fun t x hx hdead => ?_⟩
        cases t with
        | zero =>
          simp only [List.getElem?_cons_zero, Option.some.injEq] at hx
          subst hx
          exact ⟨u, rfl, hv hdead⟩
        | succ t => simpa using e2 t x (by simpa using hx) hdead
      split at h
      · rename_i hdead
        cases h
        exact key hd hi (fun hd' => by rw [hdead] at hd'; cases hd')
      · rename_i hdead
        split at h
        · rename_i hb
          simp only [Bool.and_eq_true] at hb
          cases h
          have hbe := SV.beq_eq hb.1
          subst hbe
          exact key hd hi (fun hd' => ⟨hd', hok u hb.2⟩)
        · rename_i hnb
          split at h
          · cases h
          · rename_i hud0
            have hud : u.isDead = false := by simpa using hud0
            split at h
            · rename_i b o n c b' o' n' c'
              split at h
              · rename_i hs
                simp only [Bool.and_eq_true] at hs
                cases h
                have e := Nat.eq_of_beq_eq_true hs.2
                have hi' : ∀ x ∈ i0, x.1.den ν = x.2.den ν' := fun x hx => hi x (by simp [hx])
                refine key hd hi' (fun _ => ⟨hud, ?_⟩)
                have d1 := siD_den hoki (a := o) (b := o') (fun y hy => hi y (by simp [hy]))
                have d2 := siD_den hoki (a := n) (b := n') (fun y hy => hi y (by simp [hy]))
                have d3 := siD_den hoki (a := c) (b := c') (fun y hy => hi y (by simp [hy]))
                have d4 : renR ren fr0 ρ ρ2 b' = ρ2 b := by
                  unfold renR
                  cases hsl : slotOf ren b' with
                  | none => rw [hsl] at hs; simp at hs
                  | some t => simp only; rw [e]
                simp only [SV.den, d1, d2, d3, d4]
              · cases h
                exact key (fun x hx => hd x (by simp [hx])) hi (fun _ => ⟨hud, hd _ (List.mem_cons_self ..)⟩)
            · cases h
              exact key (fun x hx => hd x (by simp [hx])) hi (fun _ => ⟨hud, hd (u, v) (by simp)⟩)

theorem FR.diffF {ok : SV → Bool} {oki : SI → Bool} {ren : List (Nat × Nat)} {fr0 : List SV} {ν ν' : Env G} {ρ ρ2 : Nat → Nat} (hok : ∀ v, ok v = true → v.den ν ρ2 = v.den ν' (renR ren fr0 ρ ρ2)) (hoki : ∀ a, oki a = true → a.den ν = a.den ν')
    {us vs : List SV} {d : List (SV × SV)} {i : List (SI × SI)} (h : Go.Sy.diffF ok oki ren fr0 us vs = some (d, i)) (hd : ∀ x ∈ d, x.1.den ν ρ2 = x.2.den ν' (renR ren fr0 ρ ρ2)) (hi : ∀ x ∈ i, x.1.den ν = x.2.den ν') {act : Act} (hf : FR ν ρ2 us act) : FR ν' (renR ren fr0 ρ ρ2) vs act := by
  obtain ⟨e1, e2⟩ := diffF_den hok hoki h hd hi
  refine ⟨by rw [hf.size, e1], fun t v hv hdead => ?_, hf.defers⟩
  obtain ⟨u, hu, hud, hden⟩ := e2 t v hv hdead
  rw [hf.tmps t u hu hud, hden]

/-! the heap -/
def nodupB : List Nat → Bool
  | [] => true
  | n :: r => !(r.any (Nat.beq n)) && nodupB r
theorem nodupB_nd : ∀ {l : List Nat}, nodupB l = true → l.Nodup
  | [], _ => List.nodup_nil
  | n :: r, h => by
    simp only [nodupB, Bool.and_eq_true, Bool.not_eq_true'] at h
    refine List.nodup_cons.2 ⟨fun hm => ?_, nodupB_nd h.2⟩
    have := List.any_eq_false.1 h.1 n hm
    simp at this

/-- A block against the head's: numbers, lists. -/
def blkD (P : Program) (ok : SBk → Bool) (oki : SI → Bool) (moved : Bool) (b c : SBk) : Option (List (SI × SI) × List (SL × SL)) :=
  if !moved && b.beq c && ok b then some ([], []) else match c with
  | .row k l' e' t => match asRow P b with
    | some (j, l, e, t') => if kBeq j k && Nat.beq t' t then some (siD oki e e', [(l, l')]) else none
    | none => none
  | _ => none
def diffM (P : Program) (okn : Nat → Bool) (ok : SBk → Bool) (oki : SI → Bool) (ren : List (Nat × Nat)) (fr0 : List SV) (us : Heap) : Heap → Option (List (SI × SI) × List (SL × SL))
  | [] => some ([], [])
  | (m, c) :: vs => match hget (sig ren fr0 m) us with
    | none => none
    | some b => if (slotOf ren m).isSome || okn m then (match blkD P ok oki (slotOf ren m).isSome b c, diffM P okn ok oki ren fr0 us vs with
      | some x, some y => some (x.1 ++ y.1, x.2 ++ y.2)
      | _, _ => none) else none

variable {P : Program}
theorem blkD_den {ok : SBk → Bool} {oki : SI → Bool} {moved : Bool} {B : Base} {ν ν' : Env G} {ρ ρ' : Nat → Nat} {n m : Nat} (hnm : ρ' m = ρ n) (hok : moved = false → n = m ∧ ∀ b, ok b = true → ∀ w F, BlkDen B ν ρ w F n b → BlkDen B ν' ρ' w F m b) (hoki : ∀ a, oki a = true → a.den ν = a.den ν') {b c : SBk} {i : List (SI × SI)} {l : List (SL × SL)}
    (h : blkD P ok oki moved b c = some (i, l)) (hi : ∀ x ∈ i, x.1.den ν = x.2.den ν') (hl : ∀ y ∈ l, y.1.den ν = y.2.den ν') {us : Heap} {w : World} (hw : HW B ν ρ us w) (hm : (n, b) ∈ us) {F : Nat → Prop} (hd : BlkDen B ν ρ w F n b) : BlkDen B ν' ρ' w F m c := by
  unfold blkD at h
  split at h
  · rename_i hb
    simp only [Bool.and_eq_true, Bool.not_eq_true'] at hb
    have := SBk.beq_eq hb.1.2
    subst this
    exact (hok hb.1.1).2 b hb.2 w F hd
  · rename_i hnb
    split at h
    · rename_i k l' e' t
      split at h
      · rename_i j l0 e t' har
        split at h
        · rename_i hk
          simp only [Bool.and_eq_true] at hk
          have e1 := kBeq_eq hk.1
          have e2 := Nat.eq_of_beq_eq_true hk.2
          subst e1 e2
          cases h
          obtain ⟨rest, r1, r2, r3⟩ := asRow_den hw hm har
          have hF := BlkDen.single (asRow_nores har) hd
          have d1 := siD_den hoki (a := e) (b := e') hi
          have d2 := hl (l0, l') (by simp)
          simp only at d2
          simp only [BlkDen]
          rw [hnm, ← d1, ← d2]
          exact ⟨⟨rest, r1, r2, r3⟩, hF⟩
        · cases h
      · cases h
    · cases h

theorem HW.diffM {okn : Nat → Bool} {ok : SBk → Bool} {oki : SI → Bool} {ren : List (Nat × Nat)} {fr0 : List SV} {B : Base} {ν ν' : Env G} {ρ ρ2 : Nat → Nat}
    (hn : ∀ n, okn n = true → ρ n = ρ2 n) (hok : ∀ n b, okn n = true → ok b = true → ∀ w F, BlkDen B ν ρ2 w F n b → BlkDen B ν' (renR ren fr0 ρ ρ2) w F n b) (hoki : ∀ a, oki a = true → a.den ν = a.den ν') {us : Heap} {w : World} (hw : HW B ν ρ2 us w) {vs : Heap} {i : List (SI × SI)} {l : List (SL × SL)}
    (h : Go.Sy.diffM P okn ok oki ren fr0 us vs = some (i, l)) (hnd : nodupB (vs.map (·.1)) = true) (hinj : nodupB (vs.map fun x => sig ren fr0 x.1) = true) (hi : ∀ x ∈ i, x.1.den ν = x.2.den ν') (hl : ∀ y ∈ l, y.1.den ν = y.2.den ν') : HW B ν' (renR ren fr0 ρ ρ2) vs w := by
  obtain ⟨F, f1, f2, f3⟩ := hw.foot
  have key : ∀ {ws : Heap} {i : List (SI × SI)} {l : List (SL × SL)}, Go.Sy.diffM P okn ok oki ren fr0 us ws = some (i, l) → (∀ x ∈ i, x.1.den ν = x.2.den ν') → (∀ y ∈ l, y.1.den ν = y.2.den ν') → ∀ m c, (m, c) ∈ ws → ∃ b, (sig ren fr0 m, b) ∈ us ∧ BlkDen B ν' (renR ren fr0 ρ ρ2) w (F (sig ren fr0 m)) m c := by
    intro ws
    induction ws with
    | nil => intro i l _ _ _ m c hm; cases hm
    | cons x ws ih =>
      obtain ⟨m0, c0⟩ := x
      intro i l h hi hl m c hm
      unfold Go.Sy.diffM at h
      split at h
      · cases h
      · rename_i b hb
        split at h
        · rename_i hs
          split at h
          · rename_i x y hx hy
            cases h
            rcases List.mem_cons.1 hm with hm | hm
            · cases hm
              refine ⟨b, hget_mem hb, ?_⟩
              have hmem := hget_mem hb
              refine blkD_den (ρ := ρ2) (n := sig ren fr0 m0) ?_ ?_ hoki hx (fun z hz => hi z (List.mem_append_left _ hz)) (fun z hz => hl z (List.mem_append_left _ hz)) hw hmem (f1 _ _ hmem)
              · unfold renR
                cases hsl : slotOf ren m0 with
                | some t => rfl
                | none =>
                  rw [hsl] at hs
                  have e : sig ren fr0 m0 = m0 := by unfold sig; rw [hsl]
                  rw [e]
                  exact hn m0 (by simpa using hs)
              · intro hmv
                have hsl : slotOf ren m0 = none := by
                  cases h0 : slotOf ren m0 with
                  | none => rfl
                  | some t => rw [h0] at hmv; cases hmv
                have e : sig ren fr0 m0 = m0 := by unfold sig; rw [hsl]
                rw [hsl] at hs
                refine ⟨e, fun b' hb' w' F' hd' => ?_⟩
                rw [e] at hd'
                exact hok m0 b' (by simpa using hs) hb' w' F' hd'
            · exact ih hy (fun z hz => hi z (List.mem_append_right _ hz)) (fun z hz => hl z (List.mem_append_right _ hz)) m c hm
          · cases h
        · cases h
  refine ⟨hw.os, hw.tape, hw.output, hw.size, hw.kept, nodupB_nd hnd, fun m => F (sig ren fr0 m), fun m c hm => ?_, fun m c k hm hk => ?_, fun m c m' c' k hm hm' hk hk' => ?_⟩
  · obtain ⟨b, _, hb⟩ := key h hi hl m c hm
    exact hb
  · obtain ⟨b, hb, _⟩ := key h hi hl m c hm
    exact f2 _ b k hb hk
  · obtain ⟨b, hb, _⟩ := key h hi hl m c hm
    obtain ⟨b', hb', _⟩ := key h hi hl m' c' hm'
    have e := f3 _ b _ b' k hb hb' hk hk'
    have nd := nodupB_nd hinj
    have inj : ∀ {ws : Heap}, (ws.map fun x => sig ren fr0 x.1).Nodup → (m, c) ∈ ws → (m', c') ∈ ws → m = m' := by
      intro ws
      induction ws with
      | nil => intro _ h1; cases h1
      | cons x ws ih =>
        intro hnd h1 h2
        simp only [List.map_cons, List.nodup_cons] at hnd
        rcases List.mem_cons.1 h1 with h1 | h1 <;> rcases List.mem_cons.1 h2 with h2 | h2
        · rw [← h1] at h2; cases h2; rfl
        · exact absurd (List.mem_map.2 ⟨(m', c'), h2, by rw [← h1]; exact e.symm⟩) hnd.1
        · exact absurd (List.mem_map.2 ⟨(m, c), h1, by rw [← h2]; exact e⟩) hnd.1
        · exact ih hnd.2 h1 h2
    exact inj nd hm hm'
end
end Go.Sy
end

section
namespace Go.Sy
open Go Go.RowKit

structure SumR where
  ex : SEx
  ds : List (SV × SV)
  is : List (SI × SI)
  ls : List (SL × SL)
  pc : PC
def nodM (ren : List (Nat × Nat)) (fr : List SV) (hp : Heap) : Bool := nodupB (hp.map (·.1)) && nodupB (hp.map fun x => sig ren fr x.1)
def sumR (P : Program) (nm lo sz : Nat) (ren : List (Nat × Nat)) (tg : List Tgt) (L : Leaf) : Option SumR :=
  match L.ex with
  | .bad => some ⟨.bad, [], [], [], L.pc⟩
  | ex => match tgtOf ex tg with
    | none => none
    | some t => match diffF (okNames nm 64 lo sz) (okSI nm lo sz) ren L.fr L.fr t.fr, diffM P (okN nm lo sz) (okB nm lo sz) (okSI nm lo sz) ren L.fr L.hp t.hp with
      | some d, some l => if nodM ren L.fr t.hp then some ⟨ex, d.1, d.2 ++ l.1, l.2, L.pc⟩ else none
      | _, _ => none
def sumsR (P : Program) (nm lo sz : Nat) (ren : List (Nat × Nat)) (tg : List Tgt) : List Leaf → Option (List SumR)
  | [] => some []
  | L :: r => match sumR P nm lo sz ren tg L, sumsR P nm lo sz ren tg r with
    | some s, some l => some (s :: l)
    | _, _ => none
theorem sumsR_mem {P : Program} {nm lo sz : Nat} {ren : List (Nat × Nat)} {tg : List Tgt} : ∀ {ls : List Leaf} {l : List SumR}, sumsR P nm lo sz ren tg ls = some l → ∀ L ∈ ls, ∃ s ∈ l, sumR P nm lo sz ren tg L = some s
  | [], _, _, L, hL => by cases hL
  | M :: r, l, h, L, hL => by
    unfold sumsR at h
    split at h
    · rename_i s l' hs hl
      cases h
      rcases List.mem_cons.1 hL with rfl | hL
      · exact ⟨s, by simp, hs⟩
      · obtain ⟨s', hs', he⟩ := sumsR_mem hl L hL
        exact ⟨s', by simp [hs'], he⟩
    · cases h

section
variable {P : Program} {G : Type} {O : Orac} {I : In G}

theorem Agree.ren {lo hi : Nat} {ν ν' : Env G} {ρ ρ' ρ3 : Nat → Nat} (h : Agree lo hi ν ν' ρ ρ') (hr : ∀ n, out lo hi n = true → ρ3 n = ρ n) : Agree lo hi ν ν' ρ ρ3 :=
  ⟨h.I, h.g, h.i, h.b, h.v, h.l, h.e, hr⟩
theorem renR_out {nm : Nat} {ren : List (Nat × Nat)} (hren : ren.all (fun x => !(out nm (nm + 64) x.1)) = true) (fr : List SV) (ρ ρ2 : Nat → Nat) {n : Nat} (hn : out nm (nm + 64) n = true) : renR ren fr ρ ρ2 n = ρ n := by
  have : slotOf ren n = none := by
    induction ren with
    | nil => rfl
    | cons x r ih =>
      obtain ⟨m, t⟩ := x
      simp only [List.all_cons, Bool.and_eq_true, Bool.not_eq_true'] at hren
      unfold slotOf
      split
      · rename_i hb
        rw [Nat.eq_of_beq_eq_true hb] at hren
        rw [hn] at hren
        simp at hren
      · exact ih hren.2
  unfold renR
  rw [this]

/-- A loop whose rows may move; 'ren': the names that may, with the slots of their slices. -/
theorem loopR_ok (pr : PR P) (oo : OOK P O I) {f s nm lo sz n it : Nat} (h1 : (loopsAt P f s).length = 1) {fr0 frI : List SV} {hp0 hpI : Heap} {pcI bads : PC} {tg : List Tgt} {sums : List SumR} {start : List (SV × SV)} {startI startI2 : List (SI × SI)} {startL : List (SL × SL)} {ren : List (Nat × Nat)}
    (hren : ren.all (fun x => !(out nm (nm + 64) x.1)) = true)
    (hbody : (codeX P O lo sz f n it (loopAt P f s) frI pcI hpI).bind (sumsR P nm lo sz ren (⟨.normal, frI, hpI, pcI⟩ :: tg)) = some sums)
    (hst : diffF (fun v => v.av nm (nm + 64)) (fun a => a.av nm (nm + 64)) ren fr0 fr0 frI = some (start, startI)) (hsl : diffM P (fun m => out nm (nm + 64) m) (fun b => b.av nm (nm + 64)) (fun a => a.av nm (nm + 64)) ren fr0 hp0 hpI = some (startI2, startL)) (hsn : nodM ren fr0 hpI = true)
    (J : Env G → Env G → Prop) (m : Env G → Env G → Nat)
    (hstart : ∀ ν ρ, ν.I = I → (∀ x ∈ bads, x.1.den ν ≠ x.2) → ∃ ν1, Agree nm (nm + 64) ν ν1 ρ ρ ∧ J ν ν1 ∧ pcDen ν1 pcI ∧ (∀ y ∈ start, ∀ ρ3, y.1.den ν ρ = y.2.den ν1 ρ3) ∧ (∀ y ∈ startI, y.1.den ν = y.2.den ν1) ∧ (∀ y ∈ startI2, y.1.den ν = y.2.den ν1) ∧ ∀ y ∈ startL, y.1.den ν = y.2.den ν1)
    (round : ∀ s ∈ sums, ∀ ν ρ ν1 ρ1 ν2 ρ2, ν.I = I → (∀ x ∈ bads, x.1.den ν ≠ x.2) → Agree nm (nm + 64) ν ν1 ρ ρ1 → J ν ν1 → pcDen ν1 pcI → Agree lo (lo + sz) ν1 ν2 ρ1 ρ2 → pcDen ν2 s.pc →
      match s.ex with
      | .normal => ∃ ν3, Agree nm (nm + 64) ν ν3 ρ ρ ∧ J ν ν3 ∧ pcDen ν3 pcI ∧ m ν ν3 < m ν ν1 ∧ (∀ y ∈ s.ds, ∀ ρ3, y.1.den ν2 ρ2 = y.2.den ν3 ρ3) ∧ (∀ y ∈ s.is, y.1.den ν2 = y.2.den ν3) ∧ ∀ y ∈ s.ls, y.1.den ν2 = y.2.den ν3
      | .bad => False
      | ex => ∃ ν3, Agree nm (nm + 64) ν ν3 ρ ρ ∧ (∀ t ∈ tg, t.ex = ex → pcDen ν3 t.pc) ∧ (∀ y ∈ s.ds, ∀ ρ3, y.1.den ν2 ρ2 = y.2.den ν3 ρ3) ∧ (∀ y ∈ s.is, y.1.den ν2 = y.2.den ν3) ∧ ∀ y ∈ s.ls, y.1.den ν2 = y.2.den ν3) {O' : Orac} (oo' : OOK P O' I) :
    OOK P (O'.withLoop f s nm fr0 hp0 (mkM nm tg bads)) I := by
  refine withLoop_ok oo' h1 ?_
  intro pc sub hsub hpart B ν ρ Q hQ hI hl act w hpc hf hw
  unfold mkM at hl
  cases hp : pav nm (nm + 64) pc with
  | false => rw [hp] at hl; exact (hl ⟨.bad, [], [], []⟩ (by simp) act w ⟨ν, ρ, Agree.refl _ _ _ _, pcDen_nil _, fun h => h.elim⟩).elim
  | true =>
    rw [hp] at hl
    simp only [if_true] at hl
    have hbad : ∀ x ∈ bads, x.1.den ν ≠ x.2 := prune_denG hpc fun x hx he =>
      (hl ⟨.bad, [], x :: pc, []⟩ (List.mem_append_right _ (List.mem_map.2 ⟨x, hx, rfl⟩)) act w ⟨ν, ρ, Agree.refl _ _ _ _, pcDen_one' he hpc, fun h => h.elim⟩).elim
    have hmono : ∀ {ν3 : Env G} {ρ3 : Nat → Nat}, Agree nm (nm + 64) ν ν3 ρ ρ3 → Agree nm (nm + sub) ν ν3 ρ ρ3 := fun h => h.mono (Nat.ble_eq_true_of_le (Nat.le_refl _)) (Nat.ble_eq_true_of_le (by omega))
    cases hb : codeX P O lo sz f n it (loopAt P f s) frI pcI hpI with
    | none => rw [hb] at hbody; cases hbody
    | some lsB =>
      rw [hb] at hbody
      simp only [Option.bind_some] at hbody
      obtain ⟨ν0, g1, g2, g3, g4, g5, g6, g7⟩ := hstart ν ρ hI hbad
      have gρ := Agree.ren g1 (ρ3 := renR ren fr0 ρ ρ) (fun n hn => renR_out hren fr0 ρ ρ hn)
      simp only [nodM, Bool.and_eq_true] at hsn
      refine wp_loop_ghost (fun k act w => ∃ ν1 ρ1, Agree nm (nm + 64) ν ν1 ρ ρ1 ∧ J ν ν1 ∧ pcDen ν1 pcI ∧ m ν ν1 = k ∧ FR ν1 ρ1 frI act ∧ HW B ν1 ρ1 hpI w) (m ν ν0) ⟨ν0, renR ren fr0 ρ ρ, gρ, g2, g3, rfl, ?_, ?_⟩ ?_
      · exact FR.diffF (fun v hv => (SV.den_agree gρ v hv).symm) (fun a ha => (SI.den_agree gρ a ha).symm) hst (fun y hy => g4 y hy _) g5 hf
      · exact HW.diffM (fun _ _ => rfl) (fun n b hn hb w F hd => BlkDen.agree gρ hb hn hd) (fun a ha => (SI.den_agree gρ a ha).symm) hw hsl hsn.1 hsn.2 g6 g7
      rintro k act w ⟨ν1, ρ1, k1, k2, k3, k4, k5, k6⟩
      refine x_code pr oo hb hpart B ν1 ρ1 (Exit.then _ Q) (k1.I.trans hI) (fun ch a w hq => hQ ch a w hq) ?_ act w ⟨ν1, ρ1, Agree.refl _ _ _ _, k3, fun _ => ⟨k5, k6⟩⟩
      rintro L hL act' w' ⟨ν2, ρ2, e1, e2, e3⟩
      obtain ⟨t, ht, hsum⟩ := sumsR_mem hbody L hL
      have hr := round t ht ν ρ ν1 ρ1 ν2 ρ2 hI hbad k1 k2 k3 e1
      have hback : ∀ {ν3 : Env G}, Agree nm (nm + 64) ν ν3 ρ ρ → ∀ {frT : List SV} {hpT : Heap} {d : List (SV × SV) × List (SI × SI)} {l : List (SI × SI) × List (SL × SL)},
          diffF (okNames nm 64 lo sz) (okSI nm lo sz) ren L.fr L.fr frT = some d → diffM P (okN nm lo sz) (okB nm lo sz) (okSI nm lo sz) ren L.fr L.hp hpT = some l → nodM ren L.fr hpT = true →
          (∀ y ∈ d.1, ∀ ρ3, y.1.den ν2 ρ2 = y.2.den ν3 ρ3) → (∀ y ∈ d.2 ++ l.1, y.1.den ν2 = y.2.den ν3) → (∀ y ∈ l.2, y.1.den ν2 = y.2.den ν3) → FR ν2 ρ2 L.fr act' → HW B ν2 ρ2 L.hp w' →
          Agree nm (nm + 64) ν ν3 ρ (renR ren L.fr ρ ρ2) ∧ FR ν3 (renR ren L.fr ρ ρ2) frT act' ∧ HW B ν3 (renR ren L.fr ρ ρ2) hpT w' := by
        intro ν3 a3 frT hpT d l hd hl' hn' q1 q2 q3 hf2 hw2
        have aρ := Agree.ren a3 (ρ3 := renR ren L.fr ρ ρ2) (fun n hn => renR_out hren L.fr ρ ρ2 hn)
        simp only [nodM, Bool.and_eq_true] at hn'
        have hSI : ∀ a : SI, okSI nm lo sz a = true → a.den ν2 = a.den ν3 := fun a ha => by
          simp only [okSI, Bool.and_eq_true] at ha
          rw [SI.den_agree e1 a ha.2, SI.den_agree k1 a ha.1, SI.den_agree a3 a ha.1]
        refine ⟨aρ, FR.diffF (fun v hv => ?_) hSI hd (fun y hy => q1 y hy _) (fun y hy => q2 y (List.mem_append_left _ hy)) hf2, HW.diffM (fun n hn => ?_) (fun n b hn hb w F hd => ?_) hSI hw2 hl' hn'.1 hn'.2 (fun y hy => q2 y (List.mem_append_right _ hy)) q3⟩
        · simp only [okNames, Bool.and_eq_true] at hv
          rw [SV.den_agree e1 v hv.2, SV.den_agree k1 v hv.1, SV.den_agree aρ v hv.1]
        · simp only [okN, Bool.and_eq_true] at hn
          rw [e1.r n hn.2, k1.r n hn.1]
        · simp only [okN, Bool.and_eq_true] at hn
          simp only [okB, Bool.and_eq_true] at hb
          exact BlkDen.agree aρ hb.1 hn.1 (BlkDen.agree k1.symm hb.1 hn.1 (BlkDen.agree e1.symm hb.2 hn.2 hd))
      unfold sumR at hsum
      cases hex : L.ex with
      | normal =>
        rw [hex] at hsum e3
        simp only [tgtOf, exBeq, if_true] at hsum
        split at hsum
        · rename_i d l hd hl'
          split at hsum
          · rename_i hn'
            cases hsum
            obtain ⟨ν3, q1, q2, q3, q4, q5, q6, q7⟩ := hr e2
            obtain ⟨hf2, hw2⟩ := e3 trivial
            obtain ⟨b1, b2, b3⟩ := hback q1 hd hl' hn' q5 q6 q7 hf2 hw2
            exact ⟨m ν ν3, by omega, ν3, _, b1, q2, q3, rfl, b2, b3⟩
          · cases hsum
        · cases hsum
      | exit i =>
        rw [hex] at hsum e3
        simp only [tgtOf, exBeq] at hsum
        split at hsum
        · cases hsum
        · rename_i t' ht'
          have ht' : tgtOf (.exit i) tg = some t' := by simpa using ht'
          obtain ⟨m1, m2⟩ := tgtOf_mem ht'
          split at hsum
          · rename_i d l hd hl'
            split at hsum
            · rename_i hn'
              cases hsum
              obtain ⟨ν3, q1, q2, q3, q4, q5⟩ := hr e2
              obtain ⟨hf2, hw2⟩ := e3 trivial
              obtain ⟨b1, b2, b3⟩ := hback q1 hd hl' hn' q3 q4 q5 hf2 hw2
              have := hl ⟨t'.ex, t'.fr, t'.pc ++ pc, t'.hp⟩ (List.mem_append_left _ (List.mem_map.2 ⟨t', List.mem_filter.2 ⟨m1, by rw [m2]; rfl⟩, rfl⟩)) act' w'
                ⟨ν3, _, hmono b1, pcDen_append (q2 t' m1 m2) (pcDen_agree q1 hp hpc), fun _ => ⟨b2, b3⟩⟩
              simp only [m2] at this
              exact this
            · cases hsum
          · cases hsum
      | ret =>
        rw [hex] at hsum e3
        simp only [tgtOf, exBeq] at hsum
        split at hsum
        · cases hsum
        · rename_i t' ht'
          have ht' : tgtOf .ret tg = some t' := by simpa using ht'
          obtain ⟨m1, m2⟩ := tgtOf_mem ht'
          split at hsum
          · rename_i d l hd hl'
            split at hsum
            · rename_i hn'
              cases hsum
              obtain ⟨ν3, q1, q2, q3, q4, q5⟩ := hr e2
              obtain ⟨hf2, hw2⟩ := e3 trivial
              obtain ⟨b1, b2, b3⟩ := hback q1 hd hl' hn' q3 q4 q5 hf2 hw2
              have := hl ⟨t'.ex, t'.fr, t'.pc ++ pc, t'.hp⟩ (List.mem_append_left _ (List.mem_map.2 ⟨t', List.mem_filter.2 ⟨m1, by rw [m2]; rfl⟩, rfl⟩)) act' w'
                ⟨ν3, _, hmono b1, pcDen_append (q2 t' m1 m2) (pcDen_agree q1 hp hpc), fun _ => ⟨b2, b3⟩⟩
              simp only [m2] at this
              exact this
            · cases hsum
          · cases hsum
      | bad =>
        rw [hex] at hsum
        simp only [Option.some.injEq] at hsum
        subst hsum
        exact (hr e2).elim
end
end Go.Sy
end

section
namespace Go.Sy
open Go Go.RowKit

/-! ### two slices of ints -/
/-- A slice of words that can be read. -/
def IntsI (w : World) (v : Value) (xs : List Int) : Prop := ∃ g o c : Nat, v = .slice (some ⟨g, o, none⟩) xs.length c ∧ g < w.heap.size ∧ xs.length ≤ 9223372036854775807 ∧ ∀ (j : Nat) (x : Int), xs[j]? = some x → w.cell? ⟨g, o + j, none⟩ = some (.int .i64 x)

/-- What a slice holds, and what is still owed (its length). -/
def intsXI (hp : Heap) : SV → Option (SL × PC)
  | .sl q o n _ => match hget q hp with
    | some (.row k l _ _) => if kBeq k .i64 && o.beq (.lit 0) then some (l, if lenIs n l then [] else [(.eq (.nat n) (.len l), false)]) else none
    | _ => none
  | _ => none

theorem intsX_denI {B : Base} {ν : Env Gh} {ρ : Nat → Nat} {hp : Heap} {w : World} (hI : ν.I = inM) (hw : HW B ν ρ hp w) {v : SV} {l : SL} {bs : PC} (h : intsXI hp v = some (l, bs)) (hb : ∀ x ∈ bs, x.1.den ν ≠ x.2) : IntsI w (v.den ν ρ) (l.den ν) := by
  unfold intsXI at h
  split at h
  · rename_i q o n c
    split at h
    · rename_i k l' cp ty hg
      split at h
      · rename_i hk
        simp only [Bool.and_eq_true] at hk
        simp only [Option.some.injEq, Prod.mk.injEq] at h
        obtain ⟨rfl, rfl⟩ := h
        have e1 := kBeq_eq hk.1
        have e2 := SI.beq_eq hk.2
        subst e1 e2
        obtain ⟨rest, h1, h2, h3⟩ := hw.ints (hget_mem hg)
        have hlen : (n.den ν).toNat = (l'.den ν).length := by
          cases hl : lenIs n l' with
          | true => exact lenIs_den hI hl
          | false =>
            rw [hl] at hb
            simp only [Bool.false_eq_true, if_false, List.mem_singleton, forall_eq] at hb
            have := hb
            simp only [SB.den, SI.den, ne_eq, beq_eq_false_iff_ne, Decidable.not_not] at this
            omega
        refine ⟨ρ q, 0, (c.den ν).toNat, by simp [SV.den, SI.den, hlen], Array.getElem?_eq_some_iff.1 h1 |>.1, by omega, fun j x hx => ?_⟩
        rw [cell_at h1]
        have hj : j < (l'.den ν).length := (List.getElem?_eq_some_iff.1 hx).1
        rw [List.getElem?_append_left (by simpa using hj), List.getElem?_map, Nat.zero_add, hx]
        rfl
      · cases h
    · cases h
  · cases h

/-- Are two slices' words the same? -/
def eqKI (_ : Nat) (args : List SV) (pc : PC) (hp : Heap) : Option (List CLeaf) := match args with
  | [a, b] => match intsXI hp a, intsXI hp b with
    | some (l, bs), some (m, cs) => some (⟨false, .bool (eqX l m), pc, hp⟩ :: (bs ++ cs).map (bad1 pc))
    | _, _ => none
  | _ => none

def EqCI (P : Program) (g : Nat) : Prop := ∀ (w : World) (a b : Value) (xs ys : List Int), IntsI w a xs → IntsI w b ys → Calls P g #[a, b] w fun e w' => e = .returned (.bool (xs == ys)) ∧ Below w.heap.size w w'

section
variable {P : Program} {O : Orac}
theorem eqK_okI (oo : OOK P O inM) {g : Nat} (hc : EqCI P g) : OOK P (O.withCall g eqKI) inM := by
  refine withCall_ok oo ?_
  intro lo args pc hp cs h sz hsz B ν ρ w R hI hpc hw hl
  unfold eqKI at h
  split at h
  · rename_i a b
    split at h
    · rename_i l bs m bs' h1 h2
      cases h
      have hb := bads_ok (bs := bs ++ bs') hpc hl (fun x hx => by simp only [List.mem_cons, List.mem_map]; exact .inr ⟨x, hx, rfl⟩)
      have i1 := intsX_denI hI hw h1 (fun x hx => hb x (by simp [hx]))
      have i2 := intsX_denI hI hw h2 (fun x hx => hb x (by simp [hx]))
      refine pure_call' (v := .bool (eqX l m)) hpc hw hl (List.mem_cons_self ..) ?_
      have := hc w _ _ _ _ i1 i2
      simp only [SV.den, eqX_den hI]
      exact this
    · cases h
  · cases h

end
end Go.Sy
end
