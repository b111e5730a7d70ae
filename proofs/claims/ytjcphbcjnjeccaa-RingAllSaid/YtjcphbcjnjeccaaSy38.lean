import Derived.Test.YtjcphbcjnjeccaaSy37
set_option linter.unusedVariables false
set_option linter.unusedSimpArgs false
namespace Go.Sy
open Go Go.RowKit

/-- What a first round's end sees. -/
structure RF0 {G : Type} (ν ν2 : Env G) : Prop where
  I : ν2.I = ν.I
  io : ∀ m, m < 1000 → ν2.i m = ν.i m
  lo : ∀ m, m < 1000 → ν2.l m = ν.l m
  go : ∀ m, m < 1000 → ν2.g m = ν.g m
  bo : ∀ m, m < 1000 → ν2.b m = ν.b m

section
variable {P : Program} {G : Type} {O : Orac} {I : In G}
/-- A loop whose first round stands alone: it is run from the entry itself ('bads' tell what is known there); behind it the head's form. -/
theorem loopP_ok (pr : PR P) (oo : OOK P O I) {f s n it : Nat} {nm : Nat} (hnm : nm = nmAt s) (hs : Nat.ble s 100000 = true) (h1 : (loopsAt P f s).length = 1) {fr0 frI : List SV} {hp0 hpI : Heap} {pcI bads : PC} {tg : List Tgt} {sums : List SumT} {sums0 : List SumT} (d : G)
    (hbody : (codeX P O LO7 SZ7 f n it (loopAt P f s) frI pcI hpI).bind (sumsT P nm LO7 SZ7 (⟨.normal, frI, hpI, pcI⟩ :: tg)) = some sums)
    (hbody0 : (codeX P O LO7 SZ7 f n it (loopAt P f s) fr0 (bads.map fun x => (x.1, !x.2)) hp0).bind (sumsT P nm LO7 SZ7 (⟨.normal, frI, hpI, pcI⟩ :: tg)) = some sums0)
    (J : Env G → Vals G → Prop) (m : Env G → Vals G → Nat)
    (M : Env G → Nat)
    (first : ∀ t ∈ sums0, ∀ ν ν2, ν.I = I → (∀ y ∈ bads, y.1.den ν ≠ y.2) → RF0 ν ν2 → pcDen ν2 t.pc →
      match t.ex with
      | .normal => J ν (t.mt.vals d ν2) ∧ pcDen (ν.at nm (t.mt.vals d ν2)) pcI ∧ m ν (t.mt.vals d ν2) < M ν ∧ t.mt.Owed ν2 (ν.at nm (t.mt.vals d ν2))
      | .bad => False
      | _ => (∀ g, tg[t.k]? = some g → pcDen (ν.at nm (t.mt.vals d ν2)) g.pc) ∧ t.mt.Owed ν2 (ν.at nm (t.mt.vals d ν2)))
    (round : ∀ t ∈ sums, ∀ ν x ν2, ν.I = I → (∀ y ∈ bads, y.1.den ν ≠ y.2) → J ν x → pcDen (ν.at nm x) pcI → RF nm ν x ν2 → pcDen ν2 t.pc →
      match t.ex with
      | .normal => J ν (t.mt.vals d ν2) ∧ pcDen (ν.at nm (t.mt.vals d ν2)) pcI ∧ m ν (t.mt.vals d ν2) < m ν x ∧ t.mt.Owed ν2 (ν.at nm (t.mt.vals d ν2))
      | .bad => False
      | _ => (∀ g, tg[t.k]? = some g → pcDen (ν.at nm (t.mt.vals d ν2)) g.pc) ∧ t.mt.Owed ν2 (ν.at nm (t.mt.vals d ν2))) {O' : Orac} (oo' : OOK P O' I) :
    OOK P (O'.withLoop f s nm fr0 hp0 (mkM nm tg bads)) I := by
  have hsm : ∀ {m : Nat}, m < 1000 → out nm (nm + 64) m = true := fun h => by rw [hnm]; exact out_small h
  have hbg : ∀ {j : Nat}, j < 64 → out LO7 (LO7 + SZ7) (nm + j) = true := fun h => by rw [hnm]; exact out_nm7 hs h
  have hbs : ∀ {m : Nat}, m < 1000 → out LO7 (LO7 + SZ7) m = true := fun h => out_big7 h
  refine withLoop_ok oo' h1 ?_
  intro pc sub hsub hpart B ν ρ Q hQ hI hl act w hpc hf hw
  unfold mkM at hl
  cases hp : pav nm (nm + 64) pc with
  | false => rw [hp] at hl; exact (hl ⟨.bad, [], [], []⟩ (by simp) act w ⟨ν, ρ, Agree.refl _ _ _ _, pcDen_nil _, fun h => h.elim⟩).elim
  | true =>
    rw [hp] at hl
    simp only [if_true] at hl
    have hbad : ∀ x ∈ bads, x.1.den ν ≠ x.2 := prune_denG hpc fun x hx he =>
      (hl ⟨.bad, [], x :: pc, []⟩ (List.mem_append_right _ (List.mem_map.2 ⟨x, hx, rfl⟩)) act w ⟨ν, ρ, Agree.refl _ _ _ _, pcDen_one' he hpc, fun h => h.elim⟩).elim
    have hmono : ∀ {ν3 : Env G} {ρ3 : Nat → Nat}, Agree nm (nm + 64) ν ν3 ρ ρ3 → Agree nm (nm + sub) ν ν3 ρ ρ3 := fun h => h.mono (Nat.ble_eq_true_of_le (Nat.le_refl _)) (Nat.ble_eq_true_of_le (by omega))
    cases hb : codeX P O LO7 SZ7 f n it (loopAt P f s) frI pcI hpI with
    | none => rw [hb] at hbody; cases hbody
    | some lsB =>
      rw [hb] at hbody
      simp only [Option.bind_some] at hbody
      -- one way from what is there to the head's form
      have conv : ∀ {lo' sz' : Nat} {x1 : Vals G} {ν1 ν2 : Env G} {ρ1 ρ2 : Nat → Nat} {mt : Mt} {us ts : List SV} {hu ht : Heap}, Agree nm (nm + 64) ν ν1 ρ ρ1 → Agree lo' (lo' + sz') ν1 ν2 ρ1 ρ2 → mAll nm lo' sz' P us hu ts ht = some mt → mt.Owed ν2 (ν.at nm (mt.vals d ν2)) →
          ∃ ρ3, Agree nm (nm + 64) ν (ν.at nm (mt.vals d ν2)) ρ ρ3 ∧ (∀ act, FR ν2 ρ2 us act → FR (ν.at nm (mt.vals d ν2)) ρ3 ts act) ∧ ∀ w, HW B ν2 ρ2 hu w → HW B (ν.at nm (mt.vals d ν2)) ρ3 ht w := by
        intro lo' sz' x1 ν1 ν2 ρ1 ρ2 mt us ts hu ht a1 a2 hm ho
        have hfine := mAll_fine hm
        let ρ3 : Nat → Nat := fun m => match inH nm m, lkp m mt.b with | true, some n => ρ2 n | _, _ => ρ m
        have hr3 : ∀ n, out nm (nm + 64) n = true → ρ3 n = ρ n := fun n hn => by
          show (match inH nm n, lkp n mt.b with | true, some n => ρ2 n | _, _ => ρ n) = ρ n
          rw [inH_out hn]
        have a3 : Agree nm (nm + 64) ν (ν.at nm (mt.vals d ν2)) ρ ρ3 := at_agree hr3
        have hsat : mt.Sat nm ν2 (ν.at nm (mt.vals d ν2)) ρ2 ρ3 := mt_sat hfine (fun j hj => at_i hj) (fun j hj => at_l hj) (fun j hj => at_g hj) ho
        have kr : KeepR nm lo' sz' ρ2 ρ3 := fun n h1 h2 => by rw [hr3 n h1, a2.r n h2, a1.r n h1]
        obtain ⟨k1, k2⟩ := mAll_den (okAll_of a1 a2 a3) kr hm hsat
        exact ⟨ρ3, a3, k1, fun w => k2 B w⟩
      have leaf : ∀ {ν1 : Env G} {ρ1 : Nat → Nat} {x1 : Vals G} {bound : Nat} {L : Leaf} {t : SumT} {ν2 : Env G} {ρ2 : Nat → Nat} {act' : Act} {w' : World}, Agree nm (nm + 64) ν ν1 ρ ρ1 → Agree LO7 (LO7 + SZ7) ν1 ν2 ρ1 ρ2 → sumT P nm LO7 SZ7 (⟨.normal, frI, hpI, pcI⟩ :: tg) L = some t → (NotBad L.ex → FR ν2 ρ2 L.fr act' ∧ HW B ν2 ρ2 L.hp w') →
          (match t.ex with
            | .normal => J ν (t.mt.vals d ν2) ∧ pcDen (ν.at nm (t.mt.vals d ν2)) pcI ∧ m ν (t.mt.vals d ν2) < bound ∧ t.mt.Owed ν2 (ν.at nm (t.mt.vals d ν2))
            | .bad => False
            | _ => (∀ g, tg[t.k]? = some g → pcDen (ν.at nm (t.mt.vals d ν2)) g.pc) ∧ t.mt.Owed ν2 (ν.at nm (t.mt.vals d ν2))) →
          NormalTo (fun act w => ∃ x ρ1, Agree nm (nm + 64) ν (ν.at nm x) ρ ρ1 ∧ J ν x ∧ pcDen (ν.at nm x) pcI ∧ m ν x < bound ∧ FR (ν.at nm x) ρ1 frI act ∧ HW B (ν.at nm x) ρ1 hpI w) Q L.ex act' w' := by
        intro ν1 ρ1 x1 bound L t ν2 ρ2 act' w' k1 e1 hsum e3 hr
        unfold sumT at hsum
        cases hex : L.ex with
        | normal =>
          rw [hex] at hsum e3
          simp only [Option.map_eq_some_iff] at hsum
          obtain ⟨mt, hm, rfl⟩ := hsum
          obtain ⟨q1, q2, q3, q4⟩ := hr
          obtain ⟨hf2, hw2⟩ := e3 trivial
          obtain ⟨ρ3, b1, b2, b3⟩ := conv (x1 := x1) k1 e1 hm q4
          exact ⟨_, ρ3, b1, q1, q2, q3, b2 _ hf2, b3 _ hw2⟩
        | exit i =>
          rw [hex] at hsum e3
          simp only [Option.map_eq_some_iff] at hsum
          obtain ⟨⟨k, mt⟩, hfind, rfl⟩ := hsum
          obtain ⟨-, t', ht', m2, hm⟩ := findT_some hfind
          rw [Nat.sub_zero] at ht'
          have m1 := List.mem_of_getElem? ht'
          rw [hex] at m2
          obtain ⟨q2, q3⟩ := hr
          obtain ⟨hf2, hw2⟩ := e3 trivial
          obtain ⟨ρ3, b1, b2, b3⟩ := conv (x1 := x1) k1 e1 hm q3
          have := hl ⟨t'.ex, t'.fr, t'.pc ++ pc, t'.hp⟩ (List.mem_append_left _ (List.mem_map.2 ⟨t', List.mem_filter.2 ⟨m1, by rw [m2]; rfl⟩, rfl⟩)) act' w'
            ⟨_, ρ3, hmono b1, pcDen_append (q2 t' ht') (pcDen_agree b1 hp hpc), fun _ => ⟨b2 _ hf2, b3 _ hw2⟩⟩
          simp only [m2] at this
          exact this
        | ret =>
          rw [hex] at hsum e3
          simp only [Option.map_eq_some_iff] at hsum
          obtain ⟨⟨k, mt⟩, hfind, rfl⟩ := hsum
          obtain ⟨-, t', ht', m2, hm⟩ := findT_some hfind
          rw [Nat.sub_zero] at ht'
          have m1 := List.mem_of_getElem? ht'
          rw [hex] at m2
          obtain ⟨q2, q3⟩ := hr
          obtain ⟨hf2, hw2⟩ := e3 trivial
          obtain ⟨ρ3, b1, b2, b3⟩ := conv (x1 := x1) k1 e1 hm q3
          have := hl ⟨t'.ex, t'.fr, t'.pc ++ pc, t'.hp⟩ (List.mem_append_left _ (List.mem_map.2 ⟨t', List.mem_filter.2 ⟨m1, by rw [m2]; rfl⟩, rfl⟩)) act' w'
            ⟨_, ρ3, hmono b1, pcDen_append (q2 t' ht') (pcDen_agree b1 hp hpc), fun _ => ⟨b2 _ hf2, b3 _ hw2⟩⟩
          simp only [m2] at this
          exact this
        | bad =>
          rw [hex] at hsum
          simp only [Option.some.injEq] at hsum
          subst hsum
          exact hr.elim
      cases hb0 : codeX P O LO7 SZ7 f n it (loopAt P f s) fr0 (bads.map fun x => (x.1, !x.2)) hp0 with
      | none => rw [hb0] at hbody0; cases hbody0
      | some ls0 =>
      rw [hb0] at hbody0
      simp only [Option.bind_some] at hbody0
      have hpcE : pcDen ν (bads.map fun x => (x.1, !x.2)) := by
        intro c b hm
        obtain ⟨x, hx, e⟩ := List.mem_map.1 hm
        cases e
        have := hbad x hx
        revert this
        cases x.1.den ν <;> cases x.2 <;> simp
      refine wp_loop_ghost (fun k act w => (∃ x ρ1, Agree nm (nm + 64) ν (ν.at nm x) ρ ρ1 ∧ J ν x ∧ pcDen (ν.at nm x) pcI ∧ m ν x = k ∧ FR (ν.at nm x) ρ1 frI act ∧ HW B (ν.at nm x) ρ1 hpI w) ∨ (k = M ν ∧ FR ν ρ fr0 act ∧ HW B ν ρ hp0 w)) (M ν) (.inr ⟨rfl, hf, hw⟩) ?_
      rintro k act w (⟨x, ρ1, k1, k2, k3, k4, k5, k6⟩ | ⟨k4, k5, k6⟩)
      · refine x_code pr oo hb hpart B (ν.at nm x) ρ1 (Exit.then _ Q) (k1.I.trans hI) (fun ch a w hq => hQ ch a w hq) ?_ act w ⟨ν.at nm x, ρ1, Agree.refl _ _ _ _, k3, fun _ => ⟨k5, k6⟩⟩
        rintro L hL act' w' ⟨ν2, ρ2, e1, e2, e3⟩
        obtain ⟨t, ht, hsum⟩ := sumsT_mem hbody L hL
        have rf : RF nm ν x ν2 :=
          ⟨e1.I.trans k1.I, fun j hj => (e1.i _ (hbg hj)).trans (at_i hj), fun j hj => (e1.l _ (hbg hj)).trans (at_l hj), fun j hj => (e1.g _ (hbg hj)).trans (at_g hj),
            fun j hj => (e1.i _ (hbs hj)).trans (at_io (hsm hj)), fun j hj => (e1.l _ (hbs hj)).trans (at_lo (hsm hj)), fun j hj => (e1.g _ (hbs hj)).trans (at_go (hsm hj)), fun j hj => (e1.b _ (hbs hj))⟩
        have e2' : pcDen ν2 t.pc := by
          have : t.pc = L.pc := by
            unfold sumT at hsum
            simp only at hsum
            split at hsum
            · cases hsum; rfl
            · simp only [Option.map_eq_some_iff] at hsum
              obtain ⟨_, _, rfl⟩ := hsum
              rfl
            · simp only [Option.map_eq_some_iff] at hsum
              obtain ⟨_, _, rfl⟩ := hsum
              rfl
          rw [this]; exact e2
        have := leaf (x1 := x) k1 e1 hsum e3 (round t ht ν x ν2 hI hbad k2 k3 rf e2')
        cases hex : L.ex with
        | normal =>
          rw [hex] at this
          obtain ⟨x', ρ3, b1, b2, b3, b4, b5, b6⟩ := this
          exact ⟨m ν x', by omega, .inl ⟨x', ρ3, b1, b2, b3, rfl, b5, b6⟩⟩
        | exit i => rw [hex] at this; exact this
        | ret => rw [hex] at this; exact this
        | bad => rw [hex] at this; exact this
      · refine x_code pr oo hb0 hpart B ν ρ (Exit.then _ Q) hI (fun ch a w hq => hQ ch a w hq) ?_ act w ⟨ν, ρ, Agree.refl _ _ _ _, hpcE, fun _ => ⟨k5, k6⟩⟩
        rintro L hL act' w' ⟨ν2, ρ2, e1, e2, e3⟩
        obtain ⟨t, ht, hsum⟩ := sumsT_mem hbody0 L hL
        have rf : RF0 ν ν2 := ⟨e1.I, fun j hj => e1.i _ (hbs hj), fun j hj => e1.l _ (hbs hj), fun j hj => e1.g _ (hbs hj), fun j hj => e1.b _ (hbs hj)⟩
        have e2' : pcDen ν2 t.pc := by
          have : t.pc = L.pc := by
            unfold sumT at hsum
            simp only at hsum
            split at hsum
            · cases hsum; rfl
            · simp only [Option.map_eq_some_iff] at hsum
              obtain ⟨_, _, rfl⟩ := hsum
              rfl
            · simp only [Option.map_eq_some_iff] at hsum
              obtain ⟨_, _, rfl⟩ := hsum
              rfl
          rw [this]; exact e2
        have := leaf (x1 := ⟨fun _ => 0, fun _ => [], fun _ => d⟩) (Agree.refl _ _ ν ρ) e1 hsum e3 (first t ht ν ν2 hI hbad rf e2')
        cases hex : L.ex with
        | normal =>
          rw [hex] at this
          obtain ⟨x', ρ3, b1, b2, b3, b4, b5, b6⟩ := this
          exact ⟨m ν x', by omega, .inl ⟨x', ρ3, b1, b2, b3, rfl, b5, b6⟩⟩
        | exit i => rw [hex] at this; exact this
        | ret => rw [hex] at this; exact this
        | bad => rw [hex] at this; exact this
end

/-- The head's reading sees so itself. -/
theorem RF.self {G : Type} {ν : Env G} {nm s : Nat} {x : Vals G} (h : nm = nmAt s) : RF nm ν x (ν.at nm x) :=
  ⟨rfl, fun _ hj => at_i hj, fun _ hj => at_l hj, fun _ hj => at_g hj, fun m hm => at_io (by rw [h]; exact out_small hm), fun m hm => at_lo (by rw [h]; exact out_small hm), fun m hm => at_go (by rw [h]; exact out_small hm), fun _ _ => rfl⟩
theorem bads_cons {G : Type} {ν : Env G} {c : SB} {b : Bool} {q : PC} : (∀ x ∈ (c, b) :: q, x.1.den ν ≠ x.2) ↔ c.den ν = !b ∧ ∀ x ∈ q, x.1.den ν ≠ x.2 := by
  simp only [List.mem_cons, forall_eq_or_imp]
  constructor
  · rintro ⟨h1, h2⟩
    refine ⟨?_, h2⟩
    revert h1
    cases c.den ν <;> cases b <;> simp
  · rintro ⟨h1, h2⟩
    refine ⟨?_, h2⟩
    simp only [h1]
    cases b <;> simp
theorem bads_nil {G : Type} {ν : Env G} : (∀ x ∈ ([] : PC), x.1.den ν ≠ x.2) ↔ True := by simp
theorem lkp_nil {α : Type} (n : Nat) : lkp n ([] : List (Nat × α)) = none := rfl
theorem lkp_cons {α : Type} (n m : Nat) (x : α) (r : List (Nat × α)) : lkp n ((m, x) :: r) = if m = n then some x else lkp n r := by
  show (if Nat.beq m n then some x else lkp n r) = _
  by_cases h : m = n
  · subst h; simp
  · rw [if_neg h, if_neg (fun hb => h (Nat.eq_of_beq_eq_true hb))]
/-! ### heads -/
section
variable (P : Program) (nm : Nat)
/-- A slot's number is the head's j-th. -/
def hdI (t j : Nat) (L : Leaf) : Leaf := { L with fr := L.fr.set t (match fget L.fr t with | .int k _ => .int k (.var (nm + j)) | v => v) }
/-- A slot's slice: a row that may move, from its first cell on. -/
def hdR (t j : Nat) (L : Leaf) : Leaf := match fget L.fr t with
  | .sl b _ _ _ => match (hget b L.hp).bind (asRow P) with
    | some (k, _, _, ty) => { L with fr := L.fr.set t (.sl (nm + j) (.lit 0) (.len (.var (nm + j))) (.var (nm + j))), hp := hadd (nm + j) (.row k (.var (nm + j)) (.var (nm + j)) ty) (herase b L.hp) }
    | none => L
  | _ => L
/-- A slice that isn't there yet: of this kind, this type of elements. -/
def hdN (t j : Nat) (k : IntKind) (ty : Nat) (L : Leaf) : Leaf := { L with fr := L.fr.set t (.sl (nm + j) (.lit 0) (.len (.var (nm + j))) (.var (nm + j))), hp := hadd (nm + j) (.row k (.var (nm + j)) (.var (nm + j)) ty) L.hp }
/-- A row that stays: its list is the head's. -/
def hdL (b j : Nat) (L : Leaf) : Leaf := match (hget b L.hp).bind (asRow P) with
  | some (k, _, c, ty) => { L with hp := hset b (.row k (.var (nm + j)) c ty) L.hp }
  | none => L
def hdD (t : Nat) (L : Leaf) : Leaf := { L with fr := L.fr.set t .dead }
def hdEnd (L : Leaf) : Leaf := { L with fr := deadUndef L.fr }
def hdFrom (n : Nat) (L : Leaf) : Leaf := { L with fr := deadFrom n L.fr }
end
end Go.Sy
