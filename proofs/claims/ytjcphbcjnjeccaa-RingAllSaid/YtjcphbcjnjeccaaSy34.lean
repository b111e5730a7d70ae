import Derived.Test.YtjcphbcjnjeccaaSy33
set_option linter.unusedVariables false
set_option linter.unusedSimpArgs false
namespace Go.Sy
open Go Go.RowKit

section
variable {G : Type} {ν : Env G} {nm : Nat} {x : Vals G}
theorem at_i {j : Nat} (h : j < 64) : (ν.at nm x).i (nm + j) = x.i j := by
  show (match inH nm (nm + j) with | true => x.i (nm + j - nm) | false => ν.i (nm + j)) = _
  rw [inH_of h]
  show x.i _ = x.i _
  congr 1; omega
theorem at_l {j : Nat} (h : j < 64) : (ν.at nm x).l (nm + j) = x.l j := by
  show (match inH nm (nm + j) with | true => x.l (nm + j - nm) | false => ν.l (nm + j)) = _
  rw [inH_of h]
  show x.l _ = x.l _
  congr 1; omega
theorem at_g {j : Nat} (h : j < 64) : (ν.at nm x).g (nm + j) = x.g j := by
  show (match inH nm (nm + j) with | true => x.g (nm + j - nm) | false => ν.g (nm + j)) = _
  rw [inH_of h]
  show x.g _ = x.g _
  congr 1; omega
theorem at_io {m : Nat} (h : out nm (nm + 64) m = true) : (ν.at nm x).i m = ν.i m := by
  show (match inH nm m with | true => x.i (m - nm) | false => ν.i m) = _
  rw [inH_out h]
theorem at_lo {m : Nat} (h : out nm (nm + 64) m = true) : (ν.at nm x).l m = ν.l m := by
  show (match inH nm m with | true => x.l (m - nm) | false => ν.l m) = _
  rw [inH_out h]
theorem at_go {m : Nat} (h : out nm (nm + 64) m = true) : (ν.at nm x).g m = ν.g m := by
  show (match inH nm m with | true => x.g (m - nm) | false => ν.g m) = _
  rw [inH_out h]
theorem at_agree {ρ ρ' : Nat → Nat} (hr : ∀ n, out nm (nm + 64) n = true → ρ' n = ρ n) : Agree nm (nm + 64) ν (ν.at nm x) ρ ρ' :=
  ⟨rfl, fun _ h => at_go h, fun _ h => at_io h, fun _ _ => rfl, fun _ _ => rfl, fun _ h => at_lo h, fun _ _ => rfl, hr⟩
end

structure SumT where
  ex : SEx
  k : Nat
  mt : Mt
  pc : PC
/-- Two numbers that are not the same are asked to be. -/
def Mt.clash (m : Mt) : Bool := m.qi.any fun y => match y with
  | (.lit a, .lit b) => !(intBeq a b)
  | _ => false
/-- The first way out that fits. -/
def findT (P : Program) (nm lo sz : Nat) (L : Leaf) : Nat → List Tgt → Option (Nat × Mt)
  | _, [] => none
  | i, t :: r => if exBeq t.ex L.ex then match mAll nm lo sz P L.fr L.hp t.fr t.hp with
      | some m => if m.clash then findT P nm lo sz L (i + 1) r else some (i, m)
      | none => findT P nm lo sz L (i + 1) r
    else findT P nm lo sz L (i + 1) r
/-- A leaf against the head (the first one), or the ways out. -/
def sumT (P : Program) (nm lo sz : Nat) (tg : List Tgt) (L : Leaf) : Option SumT := match tg with
  | [] => none
  | h :: r => match L.ex with
    | .bad => some ⟨.bad, 0, .none, L.pc⟩
    | .normal => (mAll nm lo sz P L.fr L.hp h.fr h.hp).map (⟨.normal, 0, ·, L.pc⟩)
    | ex => (findT P nm lo sz L 0 r).map fun x => ⟨ex, x.1, x.2, L.pc⟩
theorem findT_some {P : Program} {nm lo sz : Nat} {L : Leaf} : ∀ {r : List Tgt} {i k : Nat} {m : Mt}, findT P nm lo sz L i r = some (k, m) → i ≤ k ∧ ∃ t, r[k - i]? = some t ∧ t.ex = L.ex ∧ mAll nm lo sz P L.fr L.hp t.fr t.hp = some m
  | [], _, _, _, h => by cases h
  | t :: r, i, k, m, h => by
    have step : findT P nm lo sz L (i + 1) r = some (k, m) → i ≤ k ∧ ∃ t', (t :: r)[k - i]? = some t' ∧ t'.ex = L.ex ∧ mAll nm lo sz P L.fr L.hp t'.fr t'.hp = some m := fun h => by
      obtain ⟨h1, t', h2, h3⟩ := findT_some h
      refine ⟨by omega, t', ?_, h3⟩
      have : k - i = (k - (i + 1)) + 1 := by omega
      rw [this]; exact h2
    unfold findT at h
    split at h
    · rename_i hb
      split at h
      · rename_i m' hm
        split at h
        · exact step h
        · cases h
          exact ⟨Nat.le_refl _, t, by simp, exBeq_eq hb, hm⟩
      · exact step h
    · exact step h
def sumsT (P : Program) (nm lo sz : Nat) (tg : List Tgt) : List Leaf → Option (List SumT)
  | [] => some []
  | L :: r => match sumT P nm lo sz tg L, sumsT P nm lo sz tg r with
    | some s, some l => some (s :: l)
    | _, _ => none
theorem sumsT_mem {P : Program} {nm lo sz : Nat} {tg : List Tgt} : ∀ {ls : List Leaf} {l : List SumT}, sumsT P nm lo sz tg ls = some l → ∀ L ∈ ls, ∃ s ∈ l, sumT P nm lo sz tg L = some s
  | [], _, _, L, hL => by cases hL
  | M :: r, l, h, L, hL => by
    unfold sumsT at h
    split at h
    · rename_i s l' hs hl
      cases h
      rcases List.mem_cons.1 hL with rfl | hL
      · exact ⟨s, by simp, hs⟩
      · obtain ⟨s', hs', he⟩ := sumsT_mem hl L hL
        exact ⟨s', by simp [hs'], he⟩
    · cases h

def LO7 : Nat := 2 ^ 700
def SZ7 : Nat := 2 ^ 650
theorem out_big7 {m : Nat} (h : m < 1000) : out LO7 (LO7 + SZ7) m = true := by
  unfold LO7 SZ7; exact out_big h
theorem out_nm7 {s j : Nat} (hs : Nat.ble s 100000 = true) (h : j < 64) : out LO7 (LO7 + SZ7) (nmAt s + j) = true := by
  unfold LO7 SZ7; exact out_nm hs h
attribute [irreducible] LO7 SZ7
/-- What a round's end sees: the head's values, what is around. -/
structure RF {G : Type} (nm : Nat) (ν : Env G) (x : Vals G) (ν2 : Env G) : Prop where
  I : ν2.I = ν.I
  i : ∀ j, j < 64 → ν2.i (nm + j) = x.i j
  l : ∀ j, j < 64 → ν2.l (nm + j) = x.l j
  g : ∀ j, j < 64 → ν2.g (nm + j) = x.g j
  io : ∀ m, m < 1000 → ν2.i m = ν.i m
  lo : ∀ m, m < 1000 → ν2.l m = ν.l m
  go : ∀ m, m < 1000 → ν2.g m = ν.g m
  bo : ∀ m, m < 1000 → ν2.b m = ν.b m

section
variable {P : Program} {G : Type} {O : Orac} {I : In G}
theorem mt_sat {nm : Nat} {s : Mt} {d : G} {ν2 ν3 : Env G} {ρ2 ρ : Nat → Nat} (hf : s.fine nm = true) (hi : ∀ j, j < 64 → ν3.i (nm + j) = (s.vals d ν2).i j) (hl : ∀ j, j < 64 → ν3.l (nm + j) = (s.vals d ν2).l j) (hg : ∀ j, j < 64 → ν3.g (nm + j) = (s.vals d ν2).g j) (ho : s.Owed ν2 ν3) :
    s.Sat nm ν2 ν3 ρ2 (fun m => match inH nm m, lkp m s.b with | true, some n => ρ2 n | _, _ => ρ m) := by
  unfold Mt.fine at hf
  simp only [Bool.and_eq_true] at hf
  obtain ⟨⟨⟨⟨⟨⟨⟨c1, c2⟩, c3⟩, c4⟩, c5⟩, c6⟩, c7⟩, c8⟩ := hf
  have sm : ∀ {α : Type} {l : List (Nat × α)}, small l = true → ∀ y ∈ l, y.1 < 64 := fun h y hy => by
    have := List.all_eq_true.1 h y hy
    exact Nat.le_of_ble_eq_true this
  refine ⟨ho, fun y hy => ?_, fun y hy => ?_, fun y hy => ?_, fun y hy => ?_⟩
  · have h1 := List.all_eq_true.1 c8 y hy
    have h2 := lkp_of (x := y.2) (nodupB_nd c4) hy
    simp only [h1, h2]
  · rw [hi _ (sm c5 y hy)]
    simp only [Mt.vals, lkp_of (x := y.2) (nodupB_nd c1) hy]
  · rw [hl _ (sm c6 y hy)]
    simp only [Mt.vals, lkp_of (x := y.2) (nodupB_nd c2) hy]
  · rw [hg _ (sm c7 y hy)]
    simp only [Mt.vals, lkp_of (x := y.2) (nodupB_nd c3) hy]

theorem okAll_of {nm lo sz : Nat} {ν ν1 ν2 ν3 : Env G} {ρ ρ1 ρ2 ρ3 : Nat → Nat} (a1 : Agree nm (nm + 64) ν ν1 ρ ρ1) (a2 : Agree lo (lo + sz) ν1 ν2 ρ1 ρ2) (a3 : Agree nm (nm + 64) ν ν3 ρ ρ3) : OkAll nm lo sz ν2 ν3 where
  I := (a2.I.trans a1.I).trans a3.I.symm
  i := fun e he => by simp only [okI, Bool.and_eq_true] at he; rw [SI.den_agree a2 e he.2, SI.den_agree a1 e he.1, SI.den_agree a3 e he.1]
  l := fun e he => by simp only [okL, Bool.and_eq_true] at he; rw [SL.den_agree a2 e he.2, SL.den_agree a1 e he.1, SL.den_agree a3 e he.1]
  g := fun e he => by simp only [okG, Bool.and_eq_true] at he; rw [SG.den_agree a2 e he.2, SG.den_agree a1 e he.1, SG.den_agree a3 e he.1]
  b := fun e he => by simp only [okQ, Bool.and_eq_true] at he; rw [SB.den_agree a2 e he.2, SB.den_agree a1 e he.1, SB.den_agree a3 e he.1]
  v := fun n h1 h2 => by rw [a2.v n h2, a1.v n h1, a3.v n h1]
  e := fun n h1 h2 => by rw [a2.e n h2, a1.e n h1, a3.e n h1]

/-- A loop: its head is a frame and a heap with names; each round, each end is that with other values. 'J': what holds of the values; 'm': what each round lowers. -/
theorem loopT_ok (pr : PR P) (oo : OOK P O I) {f s n it : Nat} {nm : Nat} (hnm : nm = nmAt s) (hs : Nat.ble s 100000 = true) (h1 : (loopsAt P f s).length = 1) {fr0 frI : List SV} {hp0 hpI : Heap} {pcI bads : PC} {tg : List Tgt} {sums : List SumT} {start : Mt} (d : G)
    (hbody : (codeX P O LO7 SZ7 f n it (loopAt P f s) frI pcI hpI).bind (sumsT P nm LO7 SZ7 (⟨.normal, frI, hpI, pcI⟩ :: tg)) = some sums)
    (hst : mAll nm 0 0 P fr0 hp0 frI hpI = some start)
    (J : Env G → Vals G → Prop) (m : Env G → Vals G → Nat)
    (hstart : ∀ ν, ν.I = I → (∀ x ∈ bads, x.1.den ν ≠ x.2) → J ν (start.vals d ν) ∧ pcDen (ν.at nm (start.vals d ν)) pcI ∧ start.Owed ν (ν.at nm (start.vals d ν)))
    (round : ∀ t ∈ sums, ∀ ν x ν2, ν.I = I → (∀ y ∈ bads, y.1.den ν ≠ y.2) → J ν x → pcDen (ν.at nm x) pcI → RF nm ν x ν2 → pcDen ν2 t.pc →
      match t.ex with
      | .normal => J ν (t.mt.vals d ν2) ∧ pcDen (ν.at nm (t.mt.vals d ν2)) pcI ∧ m ν (t.mt.vals d ν2) < m ν x ∧ t.mt.Owed ν2 (ν.at nm (t.mt.vals d ν2))
      | .bad => False
      | _ => (∀ g, tg[t.k]? = some g → pcDen (ν.at nm (t.mt.vals d ν2)) g.pc) ∧ t.mt.Owed ν2 (ν.at nm (t.mt.vals d ν2))) {O' : Orac} (oo' : OOK P O' I) :
    OOK P (O'.withLoop f s nm fr0 hp0 (mkM nm tg bads)) I := by
  have hsm : ∀ {m : Nat}, m < 1000 → out nm (nm + 64) m = true := fun h => by rw [hnm]; exact out_small h
  have hbg : ∀ {j : Nat}, j < 64 → out LO7 (LO7 + SZ7) (nm + j) = true := fun h => by rw [hnm]; exact out_nm7 hs h
  have hbs : ∀ {m : Nat}, m < 1000 → out LO7 (LO7 + SZ7) m = true := fun h => out_big7 h
  refine withLoop_ok oo' h1 ?_
  intro pc sub hsub hpart B ν ρ Q hQ hI hl act w hpc hf hw
  unfold mkM at hl
  cases hp : pav nm (nm + 64) pc with
  | false => rw [hp] at hl; exact (hl ⟨.bad, [], [], []⟩ (by simp) act w ⟨ν, ρ, Agree.refl _ _ _ _, pcDen_nil _, fun h => h.elim⟩).elim
  | true =>
    rw [hp] at hl
    simp only [if_true] at hl
    have hbad : ∀ x ∈ bads, x.1.den ν ≠ x.2 := prune_denG hpc fun x hx he =>
      (hl ⟨.bad, [], x :: pc, []⟩ (List.mem_append_right _ (List.mem_map.2 ⟨x, hx, rfl⟩)) act w ⟨ν, ρ, Agree.refl _ _ _ _, pcDen_one' he hpc, fun h => h.elim⟩).elim
    have hmono : ∀ {ν3 : Env G} {ρ3 : Nat → Nat}, Agree nm (nm + 64) ν ν3 ρ ρ3 → Agree nm (nm + sub) ν ν3 ρ ρ3 := fun h => h.mono (Nat.ble_eq_true_of_le (Nat.le_refl _)) (Nat.ble_eq_true_of_le (by omega))
    cases hb : codeX P O LO7 SZ7 f n it (loopAt P f s) frI pcI hpI with
    | none => rw [hb] at hbody; cases hbody
    | some lsB =>
      rw [hb] at hbody
      simp only [Option.bind_some] at hbody
      obtain ⟨g1, g2, g3⟩ := hstart ν hI hbad
      -- one way from what is there to the head's form
      have conv : ∀ {lo' sz' : Nat} {x1 : Vals G} {ν1 ν2 : Env G} {ρ1 ρ2 : Nat → Nat} {mt : Mt} {us ts : List SV} {hu ht : Heap}, Agree nm (nm + 64) ν ν1 ρ ρ1 → Agree lo' (lo' + sz') ν1 ν2 ρ1 ρ2 → mAll nm lo' sz' P us hu ts ht = some mt → mt.Owed ν2 (ν.at nm (mt.vals d ν2)) →
          ∃ ρ3, Agree nm (nm + 64) ν (ν.at nm (mt.vals d ν2)) ρ ρ3 ∧ (∀ act, FR ν2 ρ2 us act → FR (ν.at nm (mt.vals d ν2)) ρ3 ts act) ∧ ∀ w, HW B ν2 ρ2 hu w → HW B (ν.at nm (mt.vals d ν2)) ρ3 ht w := by
        intro lo' sz' x1 ν1 ν2 ρ1 ρ2 mt us ts hu ht a1 a2 hm ho
        have hfine := mAll_fine hm
        let ρ3 : Nat → Nat := fun m => match inH nm m, lkp m mt.b with | true, some n => ρ2 n | _, _ => ρ m
        have hr3 : ∀ n, out nm (nm + 64) n = true → ρ3 n = ρ n := fun n hn => by
          show (match inH nm n, lkp n mt.b with | true, some n => ρ2 n | _, _ => ρ n) = ρ n
          rw [inH_out hn]
        have a3 : Agree nm (nm + 64) ν (ν.at nm (mt.vals d ν2)) ρ ρ3 := at_agree hr3
        have hsat : mt.Sat nm ν2 (ν.at nm (mt.vals d ν2)) ρ2 ρ3 := mt_sat hfine (fun j hj => at_i hj) (fun j hj => at_l hj) (fun j hj => at_g hj) ho
        have kr : KeepR nm lo' sz' ρ2 ρ3 := fun n h1 h2 => by rw [hr3 n h1, a2.r n h2, a1.r n h1]
        obtain ⟨k1, k2⟩ := mAll_den (okAll_of a1 a2 a3) kr hm hsat
        exact ⟨ρ3, a3, k1, fun w => k2 B w⟩
      obtain ⟨ρ0, s1, s2, s3⟩ := conv (x1 := start.vals d ν) (Agree.refl _ _ ν ρ) (Agree.refl 0 (0 + 0) ν ρ) hst g3
      refine wp_loop_ghost (fun k act w => ∃ x ρ1, Agree nm (nm + 64) ν (ν.at nm x) ρ ρ1 ∧ J ν x ∧ pcDen (ν.at nm x) pcI ∧ m ν x = k ∧ FR (ν.at nm x) ρ1 frI act ∧ HW B (ν.at nm x) ρ1 hpI w) (m ν (start.vals d ν)) ⟨_, ρ0, s1, g1, g2, rfl, s2 _ hf, s3 _ hw⟩ ?_
      rintro k act w ⟨x, ρ1, k1, k2, k3, k4, k5, k6⟩
      refine x_code pr oo hb hpart B (ν.at nm x) ρ1 (Exit.then _ Q) (k1.I.trans hI) (fun ch a w hq => hQ ch a w hq) ?_ act w ⟨ν.at nm x, ρ1, Agree.refl _ _ _ _, k3, fun _ => ⟨k5, k6⟩⟩
      rintro L hL act' w' ⟨ν2, ρ2, e1, e2, e3⟩
      obtain ⟨t, ht, hsum⟩ := sumsT_mem hbody L hL
      have rf : RF nm ν x ν2 :=
        ⟨e1.I.trans k1.I, fun j hj => (e1.i _ (hbg hj)).trans (at_i hj), fun j hj => (e1.l _ (hbg hj)).trans (at_l hj), fun j hj => (e1.g _ (hbg hj)).trans (at_g hj),
          fun j hj => (e1.i _ (hbs hj)).trans (at_io (hsm hj)), fun j hj => (e1.l _ (hbs hj)).trans (at_lo (hsm hj)), fun j hj => (e1.g _ (hbs hj)).trans (at_go (hsm hj)), fun j hj => (e1.b _ (hbs hj))⟩
      have hr := round t ht ν x ν2 hI hbad k2 k3 rf
      unfold sumT at hsum
      cases hex : L.ex with
      | normal =>
        rw [hex] at hsum e3
        simp only [Option.map_eq_some_iff] at hsum
        obtain ⟨mt, hm, rfl⟩ := hsum
        obtain ⟨q1, q2, q3, q4⟩ := hr e2
        obtain ⟨hf2, hw2⟩ := e3 trivial
        obtain ⟨ρ3, b1, b2, b3⟩ := conv (x1 := x) k1 e1 hm q4
        exact ⟨_, by rw [← k4]; exact q3, _, ρ3, b1, q1, q2, rfl, b2 _ hf2, b3 _ hw2⟩
      | exit i =>
        rw [hex] at hsum e3
        simp only [Option.map_eq_some_iff] at hsum
        obtain ⟨⟨k, mt⟩, hfind, rfl⟩ := hsum
        obtain ⟨-, t', ht', m2, hm⟩ := findT_some hfind
        rw [Nat.sub_zero] at ht'
        have m1 := List.mem_of_getElem? ht'
        rw [hex] at m2
        obtain ⟨q2, q3⟩ := hr e2
        obtain ⟨hf2, hw2⟩ := e3 trivial
        obtain ⟨ρ3, b1, b2, b3⟩ := conv (x1 := x) k1 e1 hm q3
        have := hl ⟨t'.ex, t'.fr, t'.pc ++ pc, t'.hp⟩ (List.mem_append_left _ (List.mem_map.2 ⟨t', List.mem_filter.2 ⟨m1, by rw [m2]; rfl⟩, rfl⟩)) act' w'
          ⟨_, ρ3, hmono b1, pcDen_append (q2 t' ht') (pcDen_agree b1 hp hpc), fun _ => ⟨b2 _ hf2, b3 _ hw2⟩⟩
        simp only [m2] at this
        exact this
      | ret =>
        rw [hex] at hsum e3
        simp only [Option.map_eq_some_iff] at hsum
        obtain ⟨⟨k, mt⟩, hfind, rfl⟩ := hsum
        obtain ⟨-, t', ht', m2, hm⟩ := findT_some hfind
        rw [Nat.sub_zero] at ht'
        have m1 := List.mem_of_getElem? ht'
        rw [hex] at m2
        obtain ⟨q2, q3⟩ := hr e2
        obtain ⟨hf2, hw2⟩ := e3 trivial
        obtain ⟨ρ3, b1, b2, b3⟩ := conv (x1 := x) k1 e1 hm q3
        have := hl ⟨t'.ex, t'.fr, t'.pc ++ pc, t'.hp⟩ (List.mem_append_left _ (List.mem_map.2 ⟨t', List.mem_filter.2 ⟨m1, by rw [m2]; rfl⟩, rfl⟩)) act' w'
          ⟨_, ρ3, hmono b1, pcDen_append (q2 t' ht') (pcDen_agree b1 hp hpc), fun _ => ⟨b2 _ hf2, b3 _ hw2⟩⟩
        simp only [m2] at this
        exact this
      | bad =>
        rw [hex] at hsum
        simp only [Option.some.injEq] at hsum
        subst hsum
        exact (hr e2).elim
end
end Go.Sy
