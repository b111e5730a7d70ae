import Derived.Test.YtjcphbcjnjeccaaSy19
set_option linter.unusedVariables false
set_option linter.unusedSimpArgs false
namespace Go.Sy
open Go Go.RowKit

/-! ### one heap from another: the rows whose lists part; blocks that are left out -/
def diffB (ok : SBk → Bool) (b c : SBk) : Option (List (SL × SL)) :=
  if b.beq c && ok b then some [] else match b, c with
  | .row k l e t, .row k' l' e' t' => if kBeq k k' && e.beq e' && Nat.beq t t' && ok (.row k .nil e t) then some [(l, l')] else none
  | _, _ => none
def diffH (okn : Nat → Bool) (ok : SBk → Bool) : Heap → Heap → Option (List (SL × SL))
  | _, [] => some []
  | [], _ :: _ => none
  | (n, b) :: us, (m, c) :: vs => if Nat.beq n m then (if okn n then (match diffB ok b c, diffH okn ok us vs with | some x, some y => some (x ++ y) | _, _ => none) else none) else diffH okn ok us ((m, c) :: vs)

section
variable {G : Type}

theorem diffB_den {ok : SBk → Bool} {B : Base} {ν ν' : Env G} {ρ ρ' : Nat → Nat} {n : Nat} (hn : ρ' n = ρ n) (hok : ∀ b, ok b = true → ∀ w F, BlkDen B ν ρ w F n b → BlkDen B ν' ρ' w F n b) (hsi : ∀ k e t, ok (.row k .nil e t) = true → e.den ν = e.den ν') {b c : SBk} {l : List (SL × SL)}
    (h : diffB ok b c = some l) (hl : ∀ y ∈ l, y.1.den ν = y.2.den ν') {w : World} {F : Nat → Prop} (hd : BlkDen B ν ρ w F n b) : BlkDen B ν' ρ' w F n c := by
  unfold diffB at h
  split at h
  · rename_i hb
    simp only [Bool.and_eq_true] at hb
    have := SBk.beq_eq hb.1
    subst this
    exact hok b hb.2 w F hd
  · split at h
    · split at h
      · rename_i hb
        simp only [Bool.and_eq_true] at hb
        cases h
        have e1 := kBeq_eq hb.1.1.1
        have e2 := SI.beq_eq hb.1.1.2
        have e3 := Nat.eq_of_beq_eq_true hb.1.2
        subst e1 e2 e3
        have h4 := hsi _ _ _ hb.2
        have h5 := hl (_, _) (List.mem_singleton.2 rfl)
        simp only [BlkDen] at *
        rw [hn, ← h4, ← h5]
        exact hd
      · cases h
    · cases h

theorem diffH_den {okn : Nat → Bool} {ok : SBk → Bool} {B : Base} {ν ν' : Env G} {ρ ρ' : Nat → Nat} (hn : ∀ n, okn n = true → ρ' n = ρ n) (hok : ∀ n b, okn n = true → ok b = true → ∀ w F, BlkDen B ν ρ w F n b → BlkDen B ν' ρ' w F n b) (hsi : ∀ k e t, ok (.row k .nil e t) = true → e.den ν = e.den ν') : ∀ {us vs : Heap} {l : List (SL × SL)},
    diffH okn ok us vs = some l → (∀ y ∈ l, y.1.den ν = y.2.den ν') → ((vs.map (·.1)).Sublist (us.map (·.1))) ∧ ∀ m c, (m, c) ∈ vs → ∃ b, (m, b) ∈ us ∧ ∀ w F, BlkDen B ν ρ w F m b → BlkDen B ν' ρ' w F m c
  | us, [], _, _, _ => ⟨by simp, fun m c h => by cases h⟩
  | [], _ :: _, l, h, _ => by simp [diffH] at h
  | (n, b) :: us, (m, c) :: vs, l, h, hl => by
    unfold diffH at h
    split at h
    · rename_i hnm
      have hnm := Nat.eq_of_beq_eq_true hnm
      subst hnm
      split at h
      · rename_i hokn
        split at h
        · rename_i x y hx hy
          cases h
          obtain ⟨e1, e2⟩ := diffH_den hn hok hsi hy (fun z hz => hl z (List.mem_append_right _ hz))
          refine ⟨by simpa using e1, fun k d hk => ?_⟩
          rcases List.mem_cons.1 hk with hk | hk
          · cases hk
            exact ⟨b, by simp, fun w F hd => diffB_den (hn _ hokn) (fun b' hb' => hok _ b' hokn hb') hsi hx (fun z hz => hl z (List.mem_append_left _ hz)) hd⟩
          · obtain ⟨b', hb', h2⟩ := e2 k d hk
            exact ⟨b', by simp [hb'], h2⟩
        · cases h
      · cases h
    · obtain ⟨e1, e2⟩ := diffH_den hn hok hsi h hl
      refine ⟨by simpa using List.Sublist.cons n e1, fun k d hk => ?_⟩
      obtain ⟨b', hb', h2⟩ := e2 k d hk
      exact ⟨b', by simp [hb'], h2⟩

theorem HW.diff {okn : Nat → Bool} {ok : SBk → Bool} {B : Base} {ν ν' : Env G} {ρ ρ' : Nat → Nat} (hn : ∀ n, okn n = true → ρ' n = ρ n) (hok : ∀ n b, okn n = true → ok b = true → ∀ w F, BlkDen B ν ρ w F n b → BlkDen B ν' ρ' w F n b) (hsi : ∀ k e t, ok (.row k .nil e t) = true → e.den ν = e.den ν') {us vs : Heap} {l : List (SL × SL)}
    (h : diffH okn ok us vs = some l) (hl : ∀ y ∈ l, y.1.den ν = y.2.den ν') {w : World} (hw : HW B ν ρ us w) : HW B ν' ρ' vs w := by
  obtain ⟨e1, e2⟩ := diffH_den (B := B) hn hok hsi h hl
  obtain ⟨F, h1, h2, h3⟩ := hw.foot
  refine ⟨hw.os, hw.tape, hw.output, hw.size, hw.kept, e1.nodup hw.nd, F, fun n c hm => ?_, fun n c k hm hk => ?_, fun n c m d k hm hm' hk hk' => ?_⟩
  · obtain ⟨b, hb, h4⟩ := e2 n c hm
    exact h4 w _ (h1 n b hb)
  · obtain ⟨b, hb, _⟩ := e2 n c hm
    exact h2 n b k hb hk
  · obtain ⟨b, hb, _⟩ := e2 n c hm
    obtain ⟨b', hb', _⟩ := e2 m d hm'
    exact h3 n b m b' k hb hb' hk hk'

/-! ### loops that change rows -/
structure Sum where
  ex : SEx
  ds : List (SV × SV)
  ls : List (SL × SL)
  pc : PC
/-- How a loop is left: the frame, the heap. -/
structure Tgt where
  ex : SEx
  fr : List SV
  hp : Heap
  pc : PC
def exBeq : SEx → SEx → Bool
  | .normal, .normal => true
  | .exit i, .exit j => Nat.beq i j
  | .ret, .ret => true
  | _, _ => false
theorem exBeq_eq : ∀ {a b : SEx}, exBeq a b = true → a = b := by
  intro a b h
  cases a <;> cases b <;> simp_all [exBeq]
def tgtOf (e : SEx) : List Tgt → Option Tgt
  | [] => none
  | t :: r => if exBeq t.ex e then some t else tgtOf e r
theorem tgtOf_mem {e : SEx} : ∀ {l : List Tgt} {t : Tgt}, tgtOf e l = some t → t ∈ l ∧ t.ex = e
  | [], t, h => by simp [tgtOf] at h
  | u :: r, t, h => by
    unfold tgtOf at h
    split at h
    · rename_i hb
      cases h
      exact ⟨by simp, exBeq_eq hb⟩
    · obtain ⟨h1, h2⟩ := tgtOf_mem h
      exact ⟨by simp [h1], h2⟩

def okN (nm lo sz : Nat) (n : Nat) : Bool := out nm (nm + 64) n && out lo (lo + sz) n
def okB (nm lo sz : Nat) (b : SBk) : Bool := b.av nm (nm + 64) && b.av lo (lo + sz)
def sumM (nm lo sz : Nat) (tg : List Tgt) (L : Leaf) : Option Sum :=
  match L.ex with
  | .bad => some ⟨.bad, [], [], L.pc⟩
  | ex => match tgtOf ex tg with
    | none => none
    | some t => match diffX (okNames nm 64 lo sz) L.fr t.fr, diffH (okN nm lo sz) (okB nm lo sz) L.hp t.hp with
      | some d, some l => some ⟨ex, d, l, L.pc⟩
      | _, _ => none
def sumsM (nm lo sz : Nat) (tg : List Tgt) : List Leaf → Option (List Sum)
  | [] => some []
  | L :: r => match sumM nm lo sz tg L, sumsM nm lo sz tg r with
    | some s, some l => some (s :: l)
    | _, _ => none
theorem sumsM_mem {nm lo sz : Nat} {tg : List Tgt} : ∀ {ls : List Leaf} {l : List Sum}, sumsM nm lo sz tg ls = some l → ∀ L ∈ ls, ∃ s ∈ l, sumM nm lo sz tg L = some s
  | [], _, _, L, hL => by cases hL
  | M :: r, l, h, L, hL => by
    unfold sumsM at h
    split at h
    · rename_i s l' hs hl
      cases h
      rcases List.mem_cons.1 hL with rfl | hL
      · exact ⟨s, by simp, hs⟩
      · obtain ⟨s', hs', he⟩ := sumsM_mem hl L hL
        exact ⟨s', by simp [hs'], he⟩
    · cases h

/-- What is owed and not known. -/
def prune (pc bs : PC) : PC := bs.filter fun x => match x.1.known pc with
  | some v => bBeq v x.2
  | none => true
theorem prune_denG {G : Type} {ν : Env G} {pc bs : PC} (hpc : pcDen ν pc) (h : ∀ x ∈ prune pc bs, x.1.den ν ≠ x.2) : ∀ x ∈ bs, x.1.den ν ≠ x.2 := by
  intro x hx
  by_cases hm : x ∈ prune pc bs
  · exact h x hm
  · unfold prune at hm
    have : (match x.1.known pc with | some v => bBeq v x.2 | none => true) = false := by
      cases hb : (match x.1.known pc with | some v => bBeq v x.2 | none => true) with
      | false => rfl
      | true => exact absurd (List.mem_filter.2 ⟨hx, hb⟩) hm
    cases hk : x.1.known pc with
    | none => rw [hk] at this; cases this
    | some v =>
      rw [hk] at this
      have hv := SB.known_den hpc hk
      intro he
      rw [hv] at he
      rw [he] at this
      have hr : bBeq x.2 x.2 = true := by cases x.2 <;> rfl
      exact Bool.noConfusion (this.symm.trans hr)
/-- The leaves of a loop: as it is left; what must not be. -/
def mkM (nm : Nat) (tg : List Tgt) (bads : PC) (pc : PC) : List Leaf :=
  if pav nm (nm + 64) pc then (tg.filter fun t => !exBeq t.ex .normal).map (fun t => ⟨t.ex, t.fr, t.pc ++ pc, t.hp⟩) ++ (prune pc bads).map (fun c => ⟨.bad, [], c :: pc, []⟩) else [⟨.bad, [], [], []⟩]

theorem pcDen_one' {ν : Env G} {c : SB} {b : Bool} {q : PC} (h : c.den ν = b) (hq : pcDen ν q) : pcDen ν ((c, b) :: q) := fun d x hm => by
  rcases List.mem_cons.1 hm with hm | hm
  · cases hm; exact h
  · exact hq d x hm

section
variable {P : Program} {O : Orac} {I : In G}

theorem loopM_ok (pr : PR P) (oo : OOK P O I) {f s nm lo sz n it : Nat} (h1 : (loopsAt P f s).length = 1) {fr0 frI : List SV} {hp0 hpI : Heap} {pcI bads : PC} {tg : List Tgt} {sums : List Sum} {start : List (SV × SV)} {startL : List (SL × SL)}
    (hbody : (codeX P O lo sz f n it (loopAt P f s) frI pcI hpI).bind (sumsM nm lo sz (⟨.normal, frI, hpI, pcI⟩ :: tg)) = some sums)
    (hst : diffX (fun v => v.av nm (nm + 64)) fr0 frI = some start) (hsl : diffH (fun m => out nm (nm + 64) m) (fun b => b.av nm (nm + 64)) hp0 hpI = some startL)
    (J : Env G → Env G → Prop) (m : Env G → Env G → Nat)
    (hstart : ∀ ν ρ, ν.I = I → (∀ x ∈ bads, x.1.den ν ≠ x.2) → ∃ ν1, Agree nm (nm + 64) ν ν1 ρ ρ ∧ J ν ν1 ∧ pcDen ν1 pcI ∧ (∀ y ∈ start, y.1.den ν ρ = y.2.den ν1 ρ) ∧ ∀ y ∈ startL, y.1.den ν = y.2.den ν1)
    (round : ∀ s ∈ sums, ∀ ν ρ ν1 ν2 ρ2, ν.I = I → (∀ x ∈ bads, x.1.den ν ≠ x.2) → Agree nm (nm + 64) ν ν1 ρ ρ → J ν ν1 → pcDen ν1 pcI → Agree lo (lo + sz) ν1 ν2 ρ ρ2 → pcDen ν2 s.pc →
      match s.ex with
      | .normal => ∃ ν3, Agree nm (nm + 64) ν ν3 ρ ρ ∧ J ν ν3 ∧ pcDen ν3 pcI ∧ m ν ν3 < m ν ν1 ∧ (∀ y ∈ s.ds, y.1.den ν2 ρ2 = y.2.den ν3 ρ) ∧ ∀ y ∈ s.ls, y.1.den ν2 = y.2.den ν3
      | .bad => False
      | ex => ∃ ν3, Agree nm (nm + 64) ν ν3 ρ ρ ∧ (∀ t ∈ tg, t.ex = ex → pcDen ν3 t.pc) ∧ (∀ y ∈ s.ds, y.1.den ν2 ρ2 = y.2.den ν3 ρ) ∧ ∀ y ∈ s.ls, y.1.den ν2 = y.2.den ν3) {O' : Orac} (oo' : OOK P O' I) :
    OOK P (O'.withLoop f s nm fr0 hp0 (mkM nm tg bads)) I := by
  refine withLoop_ok oo' h1 ?_
  intro pc sub hsub hpart B ν ρ Q hQ hI hl act w hpc hf hw
  unfold mkM at hl
  cases hp : pav nm (nm + 64) pc with
  | false => rw [hp] at hl; exact (hl ⟨.bad, [], [], []⟩ (by simp) act w ⟨ν, ρ, Agree.refl _ _ _ _, pcDen_nil _, fun h => h.elim⟩).elim
  | true =>
    rw [hp] at hl
    simp only [if_true] at hl
    have hbad : ∀ x ∈ bads, x.1.den ν ≠ x.2 := prune_denG hpc fun x hx he =>
      (hl ⟨.bad, [], x :: pc, []⟩ (List.mem_append_right _ (List.mem_map.2 ⟨x, hx, rfl⟩)) act w ⟨ν, ρ, Agree.refl _ _ _ _, pcDen_one' he hpc, fun h => h.elim⟩).elim
    have hmono : ∀ {ν3 : Env G}, Agree nm (nm + 64) ν ν3 ρ ρ → Agree nm (nm + sub) ν ν3 ρ ρ := fun h => h.mono (Nat.ble_eq_true_of_le (Nat.le_refl _)) (Nat.ble_eq_true_of_le (by omega))
    cases hb : codeX P O lo sz f n it (loopAt P f s) frI pcI hpI with
    | none => rw [hb] at hbody; cases hbody
    | some lsB =>
      rw [hb] at hbody
      simp only [Option.bind_some] at hbody
      obtain ⟨ν0, g1, g2, g3, g4, g5⟩ := hstart ν ρ hI hbad
      have hnames : ∀ {ν1 ν2 ν3 : Env G} {ρ2 : Nat → Nat}, Agree nm (nm + 64) ν ν1 ρ ρ → Agree lo (lo + sz) ν1 ν2 ρ ρ2 → Agree nm (nm + 64) ν ν3 ρ ρ → ∀ v, okNames nm 64 lo sz v = true → v.den ν2 ρ2 = v.den ν3 ρ := by
        intro ν1 ν2 ν3 ρ2 a1 a2 a3 v hv
        simp only [okNames, Bool.and_eq_true] at hv
        rw [SV.den_agree a2 v hv.2, SV.den_agree a1 v hv.1, SV.den_agree a3 v hv.1]
      have hheaps : ∀ {ν1 ν2 ν3 : Env G} {ρ2 : Nat → Nat}, Agree nm (nm + 64) ν ν1 ρ ρ → Agree lo (lo + sz) ν1 ν2 ρ ρ2 → Agree nm (nm + 64) ν ν3 ρ ρ → ∀ {us vs : Heap} {l : List (SL × SL)}, diffH (okN nm lo sz) (okB nm lo sz) us vs = some l → (∀ y ∈ l, y.1.den ν2 = y.2.den ν3) → ∀ {w : World}, HW B ν2 ρ2 us w → HW B ν3 ρ vs w := by
        intro ν1 ν2 ν3 ρ2 a1 a2 a3 us vs l hd hy w hw
        refine HW.diff (fun n hn => ?_) (fun n b hn hb w F hd => ?_) (fun k e t he => ?_) hd hy hw
        · simp only [okN, Bool.and_eq_true] at hn
          exact (a2.r n hn.2).symm
        · simp only [okN, Bool.and_eq_true] at hn
          simp only [okB, Bool.and_eq_true] at hb
          exact BlkDen.agree a3 hb.1 hn.1 (BlkDen.agree a1.symm hb.1 hn.1 (BlkDen.agree a2.symm hb.2 hn.2 hd))
        · simp only [okB, Bool.and_eq_true, SBk.av] at he
          rw [SI.den_agree a2 e he.2.2, SI.den_agree a1 e he.1.2, SI.den_agree a3 e he.1.2]
      refine wp_loop_ghost (fun k act w => ∃ ν1, Agree nm (nm + 64) ν ν1 ρ ρ ∧ J ν ν1 ∧ pcDen ν1 pcI ∧ m ν ν1 = k ∧ FR ν1 ρ frI act ∧ HW B ν1 ρ hpI w) (m ν ν0) ⟨ν0, g1, g2, g3, rfl, FR.diff (fun v hv => (SV.den_agree g1 v hv).symm) hst g4 hf,
        HW.diff (fun _ _ => rfl) (fun n b hn hb w F hd => BlkDen.agree g1 hb hn hd) (fun k e t he => by simp only [SBk.av, Bool.and_eq_true] at he; exact (SI.den_agree g1 e he.2).symm) hsl g5 hw⟩ ?_
      rintro k act w ⟨ν1, k1, k2, k3, k4, k5, k6⟩
      refine x_code pr oo hb hpart B ν1 ρ (Exit.then _ Q) (k1.I.trans hI) (fun ch a w hq => hQ ch a w hq) ?_ act w ⟨ν1, ρ, Agree.refl _ _ _ _, k3, fun _ => ⟨k5, k6⟩⟩
      rintro L hL act' w' ⟨ν2, ρ2, e1, e2, e3⟩
      obtain ⟨t, ht, hsum⟩ := sumsM_mem hbody L hL
      have hr := round t ht ν ρ ν1 ν2 ρ2 hI hbad k1 k2 k3 e1
      unfold sumM at hsum
      cases hex : L.ex with
      | normal =>
        rw [hex] at hsum e3
        simp only [tgtOf, exBeq, if_true] at hsum
        split at hsum
        · rename_i d l hd hl'
          cases hsum
          obtain ⟨ν3, q1, q2, q3, q4, q5, q6⟩ := hr e2
          obtain ⟨hf2, hw2⟩ := e3 trivial
          exact ⟨m ν ν3, by omega, ν3, q1, q2, q3, rfl, FR.diff (hnames k1 e1 q1) hd q5 hf2, hheaps k1 e1 q1 hl' q6 hw2⟩
        · cases hsum
      | exit i =>
        rw [hex] at hsum e3
        simp only [tgtOf, exBeq] at hsum
        split at hsum
        · cases hsum
        · rename_i t' ht'
          have ht' : tgtOf (.exit i) tg = some t' := by simpa using ht'
          obtain ⟨m1, m2⟩ := tgtOf_mem ht'
          split at hsum
          · rename_i d l hd hl'
            cases hsum
            obtain ⟨ν3, q1, q2, q3, q4⟩ := hr e2
            obtain ⟨hf2, hw2⟩ := e3 trivial
            have := hl ⟨t'.ex, t'.fr, t'.pc ++ pc, t'.hp⟩ (List.mem_append_left _ (List.mem_map.2 ⟨t', List.mem_filter.2 ⟨m1, by rw [m2]; rfl⟩, rfl⟩)) act' w'
              ⟨ν3, ρ, hmono q1, pcDen_append (q2 t' m1 m2) (pcDen_agree q1 hp hpc), fun _ => ⟨FR.diff (hnames k1 e1 q1) hd q3 hf2, hheaps k1 e1 q1 hl' q4 hw2⟩⟩
            simp only [m2] at this
            exact this
          · cases hsum
      | ret =>
        rw [hex] at hsum e3
        simp only [tgtOf, exBeq] at hsum
        split at hsum
        · cases hsum
        · rename_i t' ht'
          have ht' : tgtOf .ret tg = some t' := by simpa using ht'
          obtain ⟨m1, m2⟩ := tgtOf_mem ht'
          split at hsum
          · rename_i d l hd hl'
            cases hsum
            obtain ⟨ν3, q1, q2, q3, q4⟩ := hr e2
            obtain ⟨hf2, hw2⟩ := e3 trivial
            have := hl ⟨t'.ex, t'.fr, t'.pc ++ pc, t'.hp⟩ (List.mem_append_left _ (List.mem_map.2 ⟨t', List.mem_filter.2 ⟨m1, by rw [m2]; rfl⟩, rfl⟩)) act' w'
              ⟨ν3, ρ, hmono q1, pcDen_append (q2 t' m1 m2) (pcDen_agree q1 hp hpc), fun _ => ⟨FR.diff (hnames k1 e1 q1) hd q3 hf2, hheaps k1 e1 q1 hl' q4 hw2⟩⟩
            simp only [m2] at this
            exact this
          · cases hsum
      | bad =>
        rw [hex] at hsum
        simp only [Option.some.injEq] at hsum
        subst hsum
        exact (hr e2).elim
end
end
end Go.Sy
