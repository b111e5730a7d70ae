import Derived.Test.YtjcphbcjnjeccaaSy39
set_option linter.unusedVariables false
set_option linter.unusedSimpArgs false
namespace Go.Sy
open Go Go.RowKit

/-! ### loops whose heads have several forms -/
/-- A leaf against the heads, or the ways out. -/
def sumHd (P : Program) (nm lo sz : Nat) (heads tg : List Tgt) (L : Leaf) : Option SumT := match L.ex with
  | .bad => some ⟨.bad, 0, .none, L.pc⟩
  | .normal => (findT P nm lo sz L 0 heads).map fun x => ⟨.normal, x.1, x.2, L.pc⟩
  | ex => (findT P nm lo sz L 0 tg).map fun x => ⟨ex, x.1, x.2, L.pc⟩
def sumsHd (P : Program) (nm lo sz : Nat) (heads tg : List Tgt) : List Leaf → Option (List SumT)
  | [] => some []
  | L :: r => match sumHd P nm lo sz heads tg L, sumsHd P nm lo sz heads tg r with
    | some s, some l => some (s :: l)
    | _, _ => none
theorem sumsHd_mem {P : Program} {nm lo sz : Nat} {heads tg : List Tgt} : ∀ {ls : List Leaf} {l : List SumT}, sumsHd P nm lo sz heads tg ls = some l → ∀ L ∈ ls, ∃ s ∈ l, sumHd P nm lo sz heads tg L = some s
  | [], _, _, L, hL => by cases hL
  | M :: r, l, h, L, hL => by
    unfold sumsHd at h
    split at h
    · rename_i s l' hs hl
      cases h
      rcases List.mem_cons.1 hL with rfl | hL
      · exact ⟨s, by simp, hs⟩
      · obtain ⟨s', hs', he⟩ := sumsHd_mem hl L hL
        exact ⟨s', by simp [hs'], he⟩
    · cases h

section
variable {P : Program} {G : Type} {O : Orac} {I : In G}
/-- A loop whose head has one of several forms; 'J', 'm': by the form's number. -/
theorem loopH_ok (pr : PR P) (oo : OOK P O I) {f s n it : Nat} {nm : Nat} (hnm : nm = nmAt s) (hs : Nat.ble s 100000 = true) (h1 : (loopsAt P f s).length = 1) {fr0 : List SV} {hp0 : Heap} {bads : PC} {heads tg : List Tgt} {sums : List (List SumT)} {start : Mt} {h0 : Tgt} (d : G)
    (hlen : sums.length = heads.length)
    (hbody : ∀ (i : Nat) (h : Tgt) (ss : List SumT), heads[i]? = some h → sums[i]? = some ss → (codeX P O LO7 SZ7 f n it (loopAt P f s) h.fr h.pc h.hp).bind (sumsHd P nm LO7 SZ7 heads tg) = some ss)
    (hh0 : heads[0]? = some h0) (hst : mAll nm 0 0 P fr0 hp0 h0.fr h0.hp = some start)
    (J : Nat → Env G → Vals G → Prop) (m : Nat → Env G → Vals G → Nat)
    (hstart : ∀ ν, ν.I = I → (∀ x ∈ bads, x.1.den ν ≠ x.2) → J 0 ν (start.vals d ν) ∧ pcDen (ν.at nm (start.vals d ν)) h0.pc ∧ start.Owed ν (ν.at nm (start.vals d ν)))
    (round : ∀ (i : Nat) (h : Tgt) (ss : List SumT), heads[i]? = some h → sums[i]? = some ss → ∀ t ∈ ss, ∀ ν x ν2, ν.I = I → (∀ y ∈ bads, y.1.den ν ≠ y.2) → J i ν x → pcDen (ν.at nm x) h.pc → RF nm ν x ν2 → pcDen ν2 t.pc →
      match t.ex with
      | .normal => ∀ g, heads[t.k]? = some g → J t.k ν (t.mt.vals d ν2) ∧ pcDen (ν.at nm (t.mt.vals d ν2)) g.pc ∧ m t.k ν (t.mt.vals d ν2) < m i ν x ∧ t.mt.Owed ν2 (ν.at nm (t.mt.vals d ν2))
      | .bad => False
      | _ => (∀ g, tg[t.k]? = some g → pcDen (ν.at nm (t.mt.vals d ν2)) g.pc) ∧ t.mt.Owed ν2 (ν.at nm (t.mt.vals d ν2))) {O' : Orac} (oo' : OOK P O' I) :
    OOK P (O'.withLoop f s nm fr0 hp0 (mkM nm tg bads)) I := by
  have hsm : ∀ {m : Nat}, m < 1000 → out nm (nm + 64) m = true := fun h => by rw [hnm]; exact out_small h
  have hbg : ∀ {j : Nat}, j < 64 → out LO7 (LO7 + SZ7) (nm + j) = true := fun h => by rw [hnm]; exact out_nm7 hs h
  have hbs : ∀ {m : Nat}, m < 1000 → out LO7 (LO7 + SZ7) m = true := fun h => out_big7 h
  refine withLoop_ok oo' h1 ?_
  intro pc sub hsub hpart B ν ρ Q hQ hI hl act w hpc hf hw
  unfold mkM at hl
  cases hp : pav nm (nm + 64) pc with
  | false => rw [hp] at hl; exact (hl ⟨.bad, [], [], []⟩ (by simp) act w ⟨ν, ρ, Agree.refl _ _ _ _, pcDen_nil _, fun h => h.elim⟩).elim
  | true =>
    rw [hp] at hl
    simp only [if_true] at hl
    have hbad : ∀ x ∈ bads, x.1.den ν ≠ x.2 := prune_denG hpc fun x hx he =>
      (hl ⟨.bad, [], x :: pc, []⟩ (List.mem_append_right _ (List.mem_map.2 ⟨x, hx, rfl⟩)) act w ⟨ν, ρ, Agree.refl _ _ _ _, pcDen_one' he hpc, fun h => h.elim⟩).elim
    have hmono : ∀ {ν3 : Env G} {ρ3 : Nat → Nat}, Agree nm (nm + 64) ν ν3 ρ ρ3 → Agree nm (nm + sub) ν ν3 ρ ρ3 := fun h => h.mono (Nat.ble_eq_true_of_le (Nat.le_refl _)) (Nat.ble_eq_true_of_le (by omega))
    -- one way from what is there to the head's form
    have conv : ∀ {lo' sz' : Nat} {x1 : Vals G} {ν1 ν2 : Env G} {ρ1 ρ2 : Nat → Nat} {mt : Mt} {us ts : List SV} {hu ht : Heap}, Agree nm (nm + 64) ν ν1 ρ ρ1 → Agree lo' (lo' + sz') ν1 ν2 ρ1 ρ2 → mAll nm lo' sz' P us hu ts ht = some mt → mt.Owed ν2 (ν.at nm (mt.vals d ν2)) →
        ∃ ρ3, Agree nm (nm + 64) ν (ν.at nm (mt.vals d ν2)) ρ ρ3 ∧ (∀ act, FR ν2 ρ2 us act → FR (ν.at nm (mt.vals d ν2)) ρ3 ts act) ∧ ∀ w, HW B ν2 ρ2 hu w → HW B (ν.at nm (mt.vals d ν2)) ρ3 ht w := by
      intro lo' sz' x1 ν1 ν2 ρ1 ρ2 mt us ts hu ht a1 a2 hm ho
      have hfine := mAll_fine hm
      let ρ3 : Nat → Nat := fun m => match inH nm m, lkp m mt.b with | true, some n => ρ2 n | _, _ => ρ m
      have hr3 : ∀ n, out nm (nm + 64) n = true → ρ3 n = ρ n := fun n hn => by
        show (match inH nm n, lkp n mt.b with | true, some n => ρ2 n | _, _ => ρ n) = ρ n
        rw [inH_out hn]
      have a3 : Agree nm (nm + 64) ν (ν.at nm (mt.vals d ν2)) ρ ρ3 := at_agree hr3
      have hsat : mt.Sat nm ν2 (ν.at nm (mt.vals d ν2)) ρ2 ρ3 := mt_sat hfine (fun j hj => at_i hj) (fun j hj => at_l hj) (fun j hj => at_g hj) ho
      have kr : KeepR nm lo' sz' ρ2 ρ3 := fun n h1 h2 => by rw [hr3 n h1, a2.r n h2, a1.r n h1]
      obtain ⟨k1, k2⟩ := mAll_den (okAll_of a1 a2 a3) kr hm hsat
      exact ⟨ρ3, a3, k1, fun w => k2 B w⟩
    obtain ⟨g1, g2, g3⟩ := hstart ν hI hbad
    obtain ⟨ρ0, s1, s2, s3⟩ := conv (x1 := start.vals d ν) (Agree.refl _ _ ν ρ) (Agree.refl 0 (0 + 0) ν ρ) hst g3
    refine wp_loop_ghost (fun k act w => ∃ i h x ρ1, heads[i]? = some h ∧ Agree nm (nm + 64) ν (ν.at nm x) ρ ρ1 ∧ J i ν x ∧ pcDen (ν.at nm x) h.pc ∧ m i ν x = k ∧ FR (ν.at nm x) ρ1 h.fr act ∧ HW B (ν.at nm x) ρ1 h.hp w) (m 0 ν (start.vals d ν)) ⟨0, h0, _, ρ0, hh0, s1, g1, g2, rfl, s2 _ hf, s3 _ hw⟩ ?_
    rintro k act w ⟨i, h, x, ρ1, hi, k1, k2, k3, k4, k5, k6⟩
    have hlt : i < sums.length := by rw [hlen]; exact (List.getElem?_eq_some_iff.1 hi).1
    obtain ⟨ss, hss⟩ : ∃ ss, sums[i]? = some ss := ⟨_, List.getElem?_eq_getElem hlt⟩
    have hbody := hbody i h ss hi hss
    cases hb : codeX P O LO7 SZ7 f n it (loopAt P f s) h.fr h.pc h.hp with
    | none => rw [hb] at hbody; cases hbody
    | some lsB =>
    rw [hb] at hbody
    simp only [Option.bind_some] at hbody
    refine x_code pr oo hb hpart B (ν.at nm x) ρ1 (Exit.then _ Q) (k1.I.trans hI) (fun ch a w hq => hQ ch a w hq) ?_ act w ⟨ν.at nm x, ρ1, Agree.refl _ _ _ _, k3, fun _ => ⟨k5, k6⟩⟩
    rintro L hL act' w' ⟨ν2, ρ2, e1, e2, e3⟩
    obtain ⟨t, ht, hsum⟩ := sumsHd_mem hbody L hL
    have rf : RF nm ν x ν2 :=
      ⟨e1.I.trans k1.I, fun j hj => (e1.i _ (hbg hj)).trans (at_i hj), fun j hj => (e1.l _ (hbg hj)).trans (at_l hj), fun j hj => (e1.g _ (hbg hj)).trans (at_g hj),
        fun j hj => (e1.i _ (hbs hj)).trans (at_io (hsm hj)), fun j hj => (e1.l _ (hbs hj)).trans (at_lo (hsm hj)), fun j hj => (e1.g _ (hbs hj)).trans (at_go (hsm hj)), fun j hj => (e1.b _ (hbs hj))⟩
    have hr := round i h ss hi hss t ht ν x ν2 hI hbad k2 k3 rf
    unfold sumHd at hsum
    cases hex : L.ex with
    | normal =>
      rw [hex] at hsum e3
      simp only [Option.map_eq_some_iff] at hsum
      obtain ⟨⟨k', mt⟩, hfind, rfl⟩ := hsum
      obtain ⟨-, t', ht', m2, hm⟩ := findT_some hfind
      rw [Nat.sub_zero] at ht'
      obtain ⟨q1, q2, q3, q4⟩ := hr e2 t' ht'
      obtain ⟨hf2, hw2⟩ := e3 trivial
      obtain ⟨ρ3, b1, b2, b3⟩ := conv (x1 := x) k1 e1 hm q4
      exact ⟨_, by rw [← k4]; exact q3, k', t', _, ρ3, ht', b1, q1, q2, rfl, b2 _ hf2, b3 _ hw2⟩
    | exit i' =>
      rw [hex] at hsum e3
      simp only [Option.map_eq_some_iff] at hsum
      obtain ⟨⟨k', mt⟩, hfind, rfl⟩ := hsum
      obtain ⟨-, t', ht', m2, hm⟩ := findT_some hfind
      rw [Nat.sub_zero] at ht'
      have m1 := List.mem_of_getElem? ht'
      rw [hex] at m2
      obtain ⟨q2, q3⟩ := hr e2
      obtain ⟨hf2, hw2⟩ := e3 trivial
      obtain ⟨ρ3, b1, b2, b3⟩ := conv (x1 := x) k1 e1 hm q3
      have := hl ⟨t'.ex, t'.fr, t'.pc ++ pc, t'.hp⟩ (List.mem_append_left _ (List.mem_map.2 ⟨t', List.mem_filter.2 ⟨m1, by rw [m2]; rfl⟩, rfl⟩)) act' w'
        ⟨_, ρ3, hmono b1, pcDen_append (q2 t' ht') (pcDen_agree b1 hp hpc), fun _ => ⟨b2 _ hf2, b3 _ hw2⟩⟩
      simp only [m2] at this
      exact this
    | ret =>
      rw [hex] at hsum e3
      simp only [Option.map_eq_some_iff] at hsum
      obtain ⟨⟨k', mt⟩, hfind, rfl⟩ := hsum
      obtain ⟨-, t', ht', m2, hm⟩ := findT_some hfind
      rw [Nat.sub_zero] at ht'
      have m1 := List.mem_of_getElem? ht'
      rw [hex] at m2
      obtain ⟨q2, q3⟩ := hr e2
      obtain ⟨hf2, hw2⟩ := e3 trivial
      obtain ⟨ρ3, b1, b2, b3⟩ := conv (x1 := x) k1 e1 hm q3
      have := hl ⟨t'.ex, t'.fr, t'.pc ++ pc, t'.hp⟩ (List.mem_append_left _ (List.mem_map.2 ⟨t', List.mem_filter.2 ⟨m1, by rw [m2]; rfl⟩, rfl⟩)) act' w'
        ⟨_, ρ3, hmono b1, pcDen_append (q2 t' ht') (pcDen_agree b1 hp hpc), fun _ => ⟨b2 _ hf2, b3 _ hw2⟩⟩
      simp only [m2] at this
      exact this
    | bad =>
      rw [hex] at hsum
      simp only [Option.some.injEq] at hsum
      subst hsum
      exact (hr e2).elim
end

/-! ### a loop that runs on known values alone, round by round -/
def noOwe (m : Mt) : Bool := m.qi.isEmpty && m.ql.isEmpty && m.qb.isEmpty && m.qg.isEmpty
theorem noOwe_owed {G : Type} {m : Mt} (h : noOwe m = true) (ν2 ν3 : Env G) : m.Owed ν2 ν3 := by
  unfold noOwe at h
  simp only [Bool.and_eq_true, List.isEmpty_iff] at h
  obtain ⟨⟨⟨h1, h2⟩, h3⟩, h4⟩ := h
  exact ⟨fun y hy => (by rw [h1] at hy; cases hy), fun y hy => (by rw [h2] at hy; cases hy), fun y hy => (by rw [h3] at hy; cases hy), fun y hy => (by rw [h4] at hy; cases hy)⟩
def litSum (i : Nat) (t : SumT) : Bool := noOwe t.mt && (match t.ex with
  | .normal => Nat.beq t.k (i + 1)
  | .bad => false
  | _ => true)
def litAll (n : Nat) (l : List (List SumT)) : Bool := match l with
  | [] => true
  | ss :: r => ss.all (litSum n) && litAll (n + 1) r
theorem litAll_get : ∀ {l : List (List SumT)} {n i : Nat} {ss : List SumT}, litAll n l = true → l[i]? = some ss → ∀ t ∈ ss, litSum (n + i) t = true
  | [], _, _, _, _, h => by simp at h
  | s0 :: r, n, i, ss, hl, h => by
    simp only [litAll, Bool.and_eq_true] at hl
    cases i with
    | zero =>
      simp only [List.getElem?_cons_zero, Option.some.injEq] at h
      subst h
      intro t ht
      exact List.all_eq_true.1 hl.1 t ht
    | succ i =>
      intro t ht
      have := litAll_get hl.2 (by simpa using h) t ht
      rwa [show n + 1 + i = n + (i + 1) by omega] at this
section
variable {P : Program} {G : Type} {O : Orac} {I : In G}
theorem loopL_ok (pr : PR P) (oo : OOK P O I) {f s n it : Nat} {nm : Nat} (hnm : nm = nmAt s) (hs : Nat.ble s 100000 = true) (h1 : (loopsAt P f s).length = 1) {fr0 : List SV} {hp0 : Heap} {heads tg : List Tgt} {sums : List (List SumT)} {start : Mt} {h0 : Tgt} (d : G)
    (hlen : sums.length = heads.length)
    (hbody : ∀ (i : Nat) (h : Tgt) (ss : List SumT), heads[i]? = some h → sums[i]? = some ss → (codeX P O LO7 SZ7 f n it (loopAt P f s) h.fr h.pc h.hp).bind (sumsHd P nm LO7 SZ7 heads tg) = some ss)
    (hh0 : heads[0]? = some h0) (hst : mAll nm 0 0 P fr0 hp0 h0.fr h0.hp = some start) (hso : noOwe start = true)
    (hpcs : (heads.all fun h => h.pc.isEmpty) = true) (hpct : (tg.all fun h => h.pc.isEmpty) = true) (hlit : litAll 0 sums = true) {O' : Orac} (oo' : OOK P O' I) :
    OOK P (O'.withLoop f s nm fr0 hp0 (mkM nm tg [])) I := by
  have e1 : ∀ {i : Nat} {h : Tgt}, heads[i]? = some h → ∀ ν : Env G, pcDen ν h.pc := fun {i h} hh ν => by
    have := List.all_eq_true.1 hpcs h (List.mem_of_getElem? hh)
    rw [List.isEmpty_iff.1 this]; exact pcDen_nil _
  have e2 : ∀ {i : Nat} {h : Tgt}, tg[i]? = some h → ∀ ν : Env G, pcDen ν h.pc := fun {i h} hh ν => by
    have := List.all_eq_true.1 hpct h (List.mem_of_getElem? hh)
    rw [List.isEmpty_iff.1 this]; exact pcDen_nil _
  refine loopH_ok (bads := []) pr oo hnm hs h1 d hlen hbody hh0 hst (fun _ _ _ => True) (fun i _ _ => heads.length - i) (fun ν _ _ => ⟨trivial, e1 hh0 _, noOwe_owed hso _ _⟩) ?_ oo'
  intro i h ss hi hss t ht ν x ν2 hI _ _ _ _ _
  have hl := litAll_get hlit hss t ht
  rw [Nat.zero_add] at hl
  unfold litSum at hl
  simp only [Bool.and_eq_true] at hl
  have ho := fun ν2 ν3 => noOwe_owed (G := G) hl.1 ν2 ν3
  have hl2 := hl.2
  revert hl2
  cases t.ex with
  | normal =>
    intro hk g hg
    have hk := Nat.eq_of_beq_eq_true hk
    have := (List.getElem?_eq_some_iff.1 hg).1
    exact ⟨trivial, e1 hg _, by rw [hk] at this ⊢; omega, ho _ _⟩
  | bad => intro hk; cases hk
  | ret => intro _; exact ⟨fun g hg => e2 hg _, ho _ _⟩
  | exit j => intro _; exact ⟨fun g hg => e2 hg _, ho _ _⟩
end
/-! ### a state in a head's names -/
def reach1 (hp : Heap) (ns : List Nat) : List Nat := hp.foldl (fun ns x => if inL x.1 ns then x.2.nms ns else ns) ns
def reachN (hp : Heap) : Nat → List Nat → List Nat
  | 0, ns => ns
  | k + 1, ns => reachN hp k (reach1 hp ns)
def canS (nm : Nat) (fm : List Nat) : Sub :=
  ⟨fun n => if p0 n then .var n else .var (nm + ixN n fm), fun n => if p0 n then .var n else .var (nm + ixN n fm), fun n => if p0 n then .var n else .var (nm + ixN n fm), .var, fun n => if p0 n then n else nm + ixN n fm⟩
/-- The state, its blocks under the head's names; what nobody leads to is left out. -/
def canon (nm : Nat) (L : Leaf) : Leaf :=
  let fm := (reachN L.hp L.hp.length (nmsL L.fr [])).reverse
  { L with fr := sbL (canS nm fm) L.fr, hp := putAll (canS nm fm) (L.hp.filter fun x => p0 x.1 || inL x.1 fm) [] }
/-- The states of a loop that runs on known values: head by head; the way out. -/
def chain (P : Program) (O : Orac) (f s nm : Nat) : Nat → Leaf → List Tgt × List Tgt
  | 0, _ => ([], [])
  | k + 1, L => match codeX P O LO7 SZ7 f 6000 0 (loopAt P f s) L.fr [] L.hp with
    | some [M] => match M.ex with
      | .normal => let r := chain P O f s nm k (canon nm { M with pc := [] })
        (⟨.normal, L.fr, L.hp, []⟩ :: r.1, r.2)
      | ex => let c := canon nm M
        ([⟨.normal, L.fr, L.hp, []⟩], [⟨ex, c.fr, c.hp, []⟩])
    | _ => ([], [])
end Go.Sy
