/- Texts of one library, in one file. -/
import Derived.Test.YtlmenjenkpnacaaSyF
set_option linter.unusedVariables false
set_option linter.unusedSimpArgs false

section
namespace Go.Sy
open Go Go.RowKit

/-- What a first round's end sees. -/
structure RF0 {G : Type} (ν ν2 : Env G) : Prop where
  I : ν2.I = ν.I
  io : ∀ m, m < 1000 → ν2.i m = ν.i m
  lo : ∀ m, m < 1000 → ν2.l m = ν.l m
  go : ∀ m, m < 1000 → ν2.g m = ν.g m
  bo : ∀ m, m < 1000 → ν2.b m = ν.b m

section
variable {P : Program} {G : Type} {O : Orac} {I : In G}
/-- A loop whose first round stands alone: it is run from the entry itself ('bads' tell what is known there); behind it the head's form. -/
theorem loopP_ok (pr : PR P) (oo : OOK P O I) {f s n it : Nat} {nm : Nat} (hnm : nm = nmAt s) (hs : Nat.ble s 100000 = true) (h1 : (loopsAt P f s).length = 1) {fr0 frI : List SV} {hp0 hpI : Heap} {pcI bads : PC} {tg : List Tgt} {sums : List SumT} {sums0 : List SumT} (d : G)
    (hbody : (codeX P O LO7 SZ7 f n it (loopAt P f s) frI pcI hpI).bind (sumsT P nm LO7 SZ7 (⟨.normal, frI, hpI, pcI⟩ :: tg)) = some sums)
    (hbody0 : (codeX P O LO7 SZ7 f n it (loopAt P f s) fr0 (bads.map fun x => (x.1, !x.2)) hp0).bind (sumsT P nm LO7 SZ7 (⟨.normal, frI, hpI, pcI⟩ :: tg)) = some sums0)
    (J : Env G → Vals G → Prop) (m : Env G → Vals G → Nat)
    (M : Env G → Nat)
    (first : ∀ t ∈ sums0, ∀ ν ν2, ν.I = I → (∀ y ∈ bads, y.1.den ν ≠ y.2) → RF0 ν ν2 → pcDen ν2 t.pc →
      match t.ex with
      | .normal => J ν (t.mt.vals d ν2) ∧ pcDen (ν.at nm (t.mt.vals d ν2)) pcI ∧ m ν (t.mt.vals d ν2) < M ν ∧ t.mt.Owed ν2 (ν.at nm (t.mt.vals d ν2))
      | .bad => False
      | _ => (∀ g, tg[t.k]? = some g → pcDen (ν.at nm (t.mt.vals d ν2)) g.pc) ∧ t.mt.Owed ν2 (ν.at nm (t.mt.vals d ν2)))
    (round : ∀ t ∈ sums, ∀ ν x ν2, ν.I = I → (∀ y ∈ bads, y.1.den ν ≠ y.2) → J ν x → pcDen (ν.at nm x) pcI → RF nm ν x ν2 → pcDen ν2 t.pc →
      match t.ex with
      | .normal => J ν (t.mt.vals d ν2) ∧ pcDen (ν.at nm (t.mt.vals d ν2)) pcI ∧ m ν (t.mt.vals d ν2) < m ν x ∧ t.mt.Owed ν2 (ν.at nm (t.mt.vals d ν2))
      | .bad => False
      | _ => (∀ g, tg[t.k]? = some g → pcDen (ν.at nm (t.mt.vals d ν2)) g.pc) ∧ t.mt.Owed ν2 (ν.at nm (t.mt.vals d ν2))) {O' : Orac} (oo' : OOK P O' I) :
    OOK P (O'.withLoop f s nm fr0 hp0 (mkM nm tg bads)) I := by
  have hsm : ∀ {m : Nat}, m < 1000 → out nm (nm + 64) m = true := fun h => by rw [hnm]; exact out_small h
  have hbg : ∀ {j : Nat}, j < 64 → out LO7 (LO7 + SZ7) (nm + j) = true := fun h => by rw [hnm]; exact out_nm7 hs h
  have hbs : ∀ {m : Nat}, m < 1000 → out LO7 (LO7 + SZ7) m = true := fun h => out_big7 h
  refine withLoop_ok oo' h1 ?_
  intro pc sub hsub hpart B ν ρ Q hQ hI hl act w hpc hf hw
  unfold mkM at hl
  cases hp : pav nm (nm + 64) pc with
  | false => rw [hp] at hl; exact (hl ⟨.bad, [], [], []⟩ (by simp) act w ⟨ν, ρ, Agree.refl _ _ _ _, pcDen_nil _, fun h => h.elim⟩).elim
  | true =>
    rw [hp] at hl
    simp only [if_true] at hl
    have hbad : ∀ x ∈ bads, x.1.den ν ≠ x.2 := prune_denG hpc fun x hx he =>
      (hl ⟨.bad, [], x :: pc, []⟩ (List.mem_append_right _ (List.mem_map.2 ⟨x, hx, rfl⟩)) act w ⟨ν, ρ, Agree.refl _ _ _ _, pcDen_one' he hpc, fun h => h.elim⟩).elim
    have hmono : ∀ {ν3 : Env G} {ρ3 : Nat → Nat}, Agree nm (nm + 64) ν ν3 ρ ρ3 → Agree nm (nm + sub) ν ν3 ρ ρ3 := fun h => h.mono (Nat.ble_eq_true_of_le (Nat.le_refl _)) (Nat.ble_eq_true_of_le (by omega))
    cases hb : codeX P O LO7 SZ7 f n it (loopAt P f s) frI pcI hpI with
    | none => rw [hb] at hbody; cases hbody
    | some lsB =>
      rw [hb] at hbody
      simp only [Option.bind_some] at hbody
      -- one way from what is there to the head's form
      have conv : ∀ {lo' sz' : Nat} {x1 : Vals G} {ν1 ν2 : Env G} {ρ1 ρ2 : Nat → Nat} {mt : Mt} {us ts : List SV} {hu ht : Heap}, Agree nm (nm + 64) ν ν1 ρ ρ1 → Agree lo' (lo' + sz') ν1 ν2 ρ1 ρ2 → mAll nm lo' sz' P us hu ts ht = some mt → mt.Owed ν2 (ν.at nm (mt.vals d ν2)) →
          ∃ ρ3, Agree nm (nm + 64) ν (ν.at nm (mt.vals d ν2)) ρ ρ3 ∧ (∀ act, FR ν2 ρ2 us act → FR (ν.at nm (mt.vals d ν2)) ρ3 ts act) ∧ ∀ w, HW B ν2 ρ2 hu w → HW B (ν.at nm (mt.vals d ν2)) ρ3 ht w := by
        intro lo' sz' x1 ν1 ν2 ρ1 ρ2 mt us ts hu ht a1 a2 hm ho
        have hfine := mAll_fine hm
        let ρ3 : Nat → Nat := fun m => match inH nm m, lkp m mt.b with | true, some n => ρ2 n | _, _ => ρ m
        have hr3 : ∀ n, out nm (nm + 64) n = true → ρ3 n = ρ n := fun n hn => by
          show (match inH nm n, lkp n mt.b with | true, some n => ρ2 n | _, _ => ρ n) = ρ n
          rw [inH_out hn]
        have a3 : Agree nm (nm + 64) ν (ν.at nm (mt.vals d ν2)) ρ ρ3 := at_agree hr3
        have hsat : mt.Sat nm ν2 (ν.at nm (mt.vals d ν2)) ρ2 ρ3 := mt_sat hfine (fun j hj => at_i hj) (fun j hj => at_l hj) (fun j hj => at_g hj) ho
        have kr : KeepR nm lo' sz' ρ2 ρ3 := fun n h1 h2 => by rw [hr3 n h1, a2.r n h2, a1.r n h1]
        obtain ⟨k1, k2⟩ := mAll_den (okAll_of a1 a2 a3) kr hm hsat
        exact ⟨ρ3, a3, k1, fun w => k2 B w⟩
      have leaf : ∀ {ν1 : Env G} {ρ1 : Nat → Nat} {x1 : Vals G} {bound : Nat} {L : Leaf} {t : SumT} {ν2 : Env G} {ρ2 : Nat → Nat} {act' : Act} {w' : World}, Agree nm (nm + 64) ν ν1 ρ ρ1 → Agree LO7 (LO7 + SZ7) ν1 ν2 ρ1 ρ2 → sumT P nm LO7 SZ7 (⟨.normal, frI, hpI, pcI⟩ :: tg) L = some t → (NotBad L.ex → FR ν2 ρ2 L.fr act' ∧ HW B ν2 ρ2 L.hp w') →
          (match t.ex with
            | .normal => J ν (t.mt.vals d ν2) ∧ pcDen (ν.at nm (t.mt.vals d ν2)) pcI ∧ m ν (t.mt.vals d ν2) < bound ∧ t.mt.Owed ν2 (ν.at nm (t.mt.vals d ν2))
            | .bad => False
            | _ => (∀ g, tg[t.k]? = some g → pcDen (ν.at nm (t.mt.vals d ν2)) g.pc) ∧ t.mt.Owed ν2 (ν.at nm (t.mt.vals d ν2))) →
          NormalTo (fun act w => ∃ x ρ1, Agree nm (nm + 64) ν (ν.at nm x) ρ ρ1 ∧ J ν x ∧ pcDen (ν.at nm x) pcI ∧ m ν x < bound ∧ FR (ν.at nm x) ρ1 frI act ∧ HW B (ν.at nm x) ρ1 hpI w) Q L.ex act' w' := by
        intro ν1 ρ1 x1 bound L t ν2 ρ2 act' w' k1 e1 hsum e3 hr
        unfold sumT at hsum
        cases hex : L.ex with
        | normal =>
          rw [hex] at hsum e3
          simp only [Option.map_eq_some_iff] at hsum
          obtain ⟨mt, hm, rfl⟩ := hsum
          obtain ⟨q1, q2, q3, q4⟩ := hr
          obtain ⟨hf2, hw2⟩ := e3 trivial
          obtain ⟨ρ3, b1, b2, b3⟩ := conv (x1 := x1) k1 e1 hm q4
          exact ⟨_, ρ3, b1, q1, q2, q3, b2 _ hf2, b3 _ hw2⟩
        | exit i =>
          rw [hex] at hsum e3
          simp only [Option.map_eq_some_iff] at hsum
          obtain ⟨⟨k, mt⟩, hfind, rfl⟩ := hsum
          obtain ⟨-, t', ht', m2, hm⟩ := findT_some hfind
          rw [Nat.sub_zero] at ht'
          have m1 := List.mem_of_getElem? ht'
          rw [hex] at m2
          obtain ⟨q2, q3⟩ := hr
          obtain ⟨hf2, hw2⟩ := e3 trivial
          obtain ⟨ρ3, b1, b2, b3⟩ := conv (x1 := x1) k1 e1 hm q3
          have := hl ⟨t'.ex, t'.fr, t'.pc ++ pc, t'.hp⟩ (List.mem_append_left _ (List.mem_map.2 ⟨t', List.mem_filter.2 ⟨m1, by rw [m2]; rfl⟩, rfl⟩)) act' w'
            ⟨_, ρ3, hmono b1, pcDen_append (q2 t' ht') (pcDen_agree b1 hp hpc), fun _ => ⟨b2 _ hf2, b3 _ hw2⟩⟩
          simp only [m2] at this
          exact this
        | ret =>
          rw [hex] at hsum e3
          simp only [Option.map_eq_some_iff] at hsum
          obtain ⟨⟨k, mt⟩, hfind, rfl⟩ := hsum
          obtain ⟨-, t', ht', m2, hm⟩ := findT_some hfind
          rw [Nat.sub_zero] at ht'
          have m1 := List.mem_of_getElem? ht'
          rw [hex] at m2
          obtain ⟨q2, q3⟩ := hr
          obtain ⟨hf2, hw2⟩ := e3 trivial
          obtain ⟨ρ3, b1, b2, b3⟩ := conv (x1 := x1) k1 e1 hm q3
          have := hl ⟨t'.ex, t'.fr, t'.pc ++ pc, t'.hp⟩ (List.mem_append_left _ (List.mem_map.2 ⟨t', List.mem_filter.2 ⟨m1, by rw [m2]; rfl⟩, rfl⟩)) act' w'
            ⟨_, ρ3, hmono b1, pcDen_append (q2 t' ht') (pcDen_agree b1 hp hpc), fun _ => ⟨b2 _ hf2, b3 _ hw2⟩⟩
          simp only [m2] at this
          exact this
        | bad =>
          rw [hex] at hsum
          simp only [Option.some.injEq] at hsum
          subst hsum
          exact hr.elim
      cases hb0 : codeX P O LO7 SZ7 f n it (loopAt P f s) fr0 (bads.map fun x => (x.1, !x.2)) hp0 with
      | none => rw [hb0] at hbody0; cases hbody0
      | some ls0 =>
      rw [hb0] at hbody0
      simp only [Option.bind_some] at hbody0
      have hpcE : pcDen ν (bads.map fun x => (x.1, !x.2)) := by
        intro c b hm
        obtain ⟨x, hx, e⟩ := List.mem_map.1 hm
        cases e
        have := hbad x hx
        revert this
        cases x.1.den ν <;> cases x.2 <;> simp
      refine wp_loop_ghost (fun k act w => (∃ x ρ1, Agree nm (nm + 64) ν (ν.at nm x) ρ ρ1 ∧ J ν x ∧ pcDen (ν.at nm x) pcI ∧ m ν x = k ∧ FR (ν.at nm x) ρ1 frI act ∧ HW B (ν.at nm x) ρ1 hpI w) ∨ (k = M ν ∧ FR ν ρ fr0 act ∧ HW B ν ρ hp0 w)) (M ν) (.inr ⟨rfl, hf, hw⟩) ?_
      rintro k act w (⟨x, ρ1, k1, k2, k3, k4, k5, k6⟩ | ⟨k4, k5, k6⟩)
      · refine x_code pr oo hb hpart B (ν.at nm x) ρ1 (Exit.then _ Q) (k1.I.trans hI) (fun ch a w hq => hQ ch a w hq) ?_ act w ⟨ν.at nm x, ρ1, Agree.refl _ _ _ _, k3, fun _ => ⟨k5, k6⟩⟩
        rintro L hL act' w' ⟨ν2, ρ2, e1, e2, e3⟩
        obtain ⟨t, ht, hsum⟩ := sumsT_mem hbody L hL
        have rf : RF nm ν x ν2 :=
          ⟨e1.I.trans k1.I, fun j hj => (e1.i _ (hbg hj)).trans (at_i hj), fun j hj => (e1.l _ (hbg hj)).trans (at_l hj), fun j hj => (e1.g _ (hbg hj)).trans (at_g hj),
            fun j hj => (e1.i _ (hbs hj)).trans (at_io (hsm hj)), fun j hj => (e1.l _ (hbs hj)).trans (at_lo (hsm hj)), fun j hj => (e1.g _ (hbs hj)).trans (at_go (hsm hj)), fun j hj => (e1.b _ (hbs hj))⟩
        have e2' : pcDen ν2 t.pc := by
          have : t.pc = L.pc := by
            unfold sumT at hsum
            simp only at hsum
            split at hsum
            · cases hsum; rfl
            · simp only [Option.map_eq_some_iff] at hsum
              obtain ⟨_, _, rfl⟩ := hsum
              rfl
            · simp only [Option.map_eq_some_iff] at hsum
              obtain ⟨_, _, rfl⟩ := hsum
              rfl
          rw [this]; exact e2
        have := leaf (x1 := x) k1 e1 hsum e3 (round t ht ν x ν2 hI hbad k2 k3 rf e2')
        cases hex : L.ex with
        | normal =>
          rw [hex] at this
          obtain ⟨x', ρ3, b1, b2, b3, b4, b5, b6⟩ := this
          exact ⟨m ν x', by omega, .inl ⟨x', ρ3, b1, b2, b3, rfl, b5, b6⟩⟩
        | exit i => rw [hex] at this; exact this
        | ret => rw [hex] at this; exact this
        | bad => rw [hex] at this; exact this
      · refine x_code pr oo hb0 hpart B ν ρ (Exit.then _ Q) hI (fun ch a w hq => hQ ch a w hq) ?_ act w ⟨ν, ρ, Agree.refl _ _ _ _, hpcE, fun _ => ⟨k5, k6⟩⟩
        rintro L hL act' w' ⟨ν2, ρ2, e1, e2, e3⟩
        obtain ⟨t, ht, hsum⟩ := sumsT_mem hbody0 L hL
        have rf : RF0 ν ν2 := ⟨e1.I, fun j hj => e1.i _ (hbs hj), fun j hj => e1.l _ (hbs hj), fun j hj => e1.g _ (hbs hj), fun j hj => e1.b _ (hbs hj)⟩
        have e2' : pcDen ν2 t.pc := by
          have : t.pc = L.pc := by
            unfold sumT at hsum
            simp only at hsum
            split at hsum
            · cases hsum; rfl
            · simp only [Option.map_eq_some_iff] at hsum
              obtain ⟨_, _, rfl⟩ := hsum
              rfl
            · simp only [Option.map_eq_some_iff] at hsum
              obtain ⟨_, _, rfl⟩ := hsum
              rfl
          rw [this]; exact e2
        have := leaf (x1 := ⟨fun _ => 0, fun _ => [], fun _ => d⟩) (Agree.refl _ _ ν ρ) e1 hsum e3 (first t ht ν ν2 hI hbad rf e2')
        cases hex : L.ex with
        | normal =>
          rw [hex] at this
          obtain ⟨x', ρ3, b1, b2, b3, b4, b5, b6⟩ := this
          exact ⟨m ν x', by omega, .inl ⟨x', ρ3, b1, b2, b3, rfl, b5, b6⟩⟩
        | exit i => rw [hex] at this; exact this
        | ret => rw [hex] at this; exact this
        | bad => rw [hex] at this; exact this
end

/-- The head's reading sees so itself. -/
theorem RF.self {G : Type} {ν : Env G} {nm s : Nat} {x : Vals G} (h : nm = nmAt s) : RF nm ν x (ν.at nm x) :=
  ⟨rfl, fun _ hj => at_i hj, fun _ hj => at_l hj, fun _ hj => at_g hj, fun m hm => at_io (by rw [h]; exact out_small hm), fun m hm => at_lo (by rw [h]; exact out_small hm), fun m hm => at_go (by rw [h]; exact out_small hm), fun _ _ => rfl⟩
theorem bads_cons {G : Type} {ν : Env G} {c : SB} {b : Bool} {q : PC} : (∀ x ∈ (c, b) :: q, x.1.den ν ≠ x.2) ↔ c.den ν = !b ∧ ∀ x ∈ q, x.1.den ν ≠ x.2 := by
  simp only [List.mem_cons, forall_eq_or_imp]
  constructor
  · rintro ⟨h1, h2⟩
    refine ⟨?_, h2⟩
    revert h1
    cases c.den ν <;> cases b <;> simp
  · rintro ⟨h1, h2⟩
    refine ⟨?_, h2⟩
    simp only [h1]
    cases b <;> simp
theorem bads_nil {G : Type} {ν : Env G} : (∀ x ∈ ([] : PC), x.1.den ν ≠ x.2) ↔ True := by simp
theorem lkp_nil {α : Type} (n : Nat) : lkp n ([] : List (Nat × α)) = none := rfl
theorem lkp_cons {α : Type} (n m : Nat) (x : α) (r : List (Nat × α)) : lkp n ((m, x) :: r) = if m = n then some x else lkp n r := by
  show (if Nat.beq m n then some x else lkp n r) = _
  by_cases h : m = n
  · subst h; simp
  · rw [if_neg h, if_neg (fun hb => h (Nat.eq_of_beq_eq_true hb))]
/-! ### heads -/
section
variable (P : Program) (nm : Nat)
/-- A slot's number is the head's j-th. -/
def hdI (t j : Nat) (L : Leaf) : Leaf := { L with fr := L.fr.set t (match fget L.fr t with | .int k _ => .int k (.var (nm + j)) | v => v) }
/-- A slot's slice: a row that may move, from its first cell on. -/
def hdR (t j : Nat) (L : Leaf) : Leaf := match fget L.fr t with
  | .sl b _ _ _ => match (hget b L.hp).bind (asRow P) with
    | some (k, _, _, ty) => { L with fr := L.fr.set t (.sl (nm + j) (.lit 0) (.len (.var (nm + j))) (.var (nm + j))), hp := hadd (nm + j) (.row k (.var (nm + j)) (.var (nm + j)) ty) (herase b L.hp) }
    | none => L
  | _ => L
/-- A slice that isn't there yet: of this kind, this type of elements. -/
def hdN (t j : Nat) (k : IntKind) (ty : Nat) (L : Leaf) : Leaf := { L with fr := L.fr.set t (.sl (nm + j) (.lit 0) (.len (.var (nm + j))) (.var (nm + j))), hp := hadd (nm + j) (.row k (.var (nm + j)) (.var (nm + j)) ty) L.hp }
/-- A row that stays: its list is the head's. -/
def hdL (b j : Nat) (L : Leaf) : Leaf := match (hget b L.hp).bind (asRow P) with
  | some (k, _, c, ty) => { L with hp := hset b (.row k (.var (nm + j)) c ty) L.hp }
  | none => L
def hdD (t : Nat) (L : Leaf) : Leaf := { L with fr := L.fr.set t .dead }
def hdEnd (L : Leaf) : Leaf := { L with fr := deadUndef L.fr }
def hdFrom (n : Nat) (L : Leaf) : Leaf := { L with fr := deadFrom n L.fr }
end
end Go.Sy
end

section
namespace Go.Sy
open Go Go.RowKit

/-! ### operations known by proof -/
def Orac.withOp (O : Orac) (k : Nat → List SV → PC → Heap → Oper → Option (List (PC × ORes))) : Orac :=
  { O with op := fun nm fr pc hp o => match k nm fr pc hp o with | some r => some r | none => O.op nm fr pc hp o }

section
variable {P : Program} {G : Type} {O : Orac} {I : In G}
theorem withOp_ok (oo : OOK P O I) {k : Nat → List SV → PC → Heap → Oper → Option (List (PC × ORes))}
    (h : ∀ {nm : Nat} {fr : List SV} {pc : PC} {hp : Heap} {o : Oper} {outs : List (PC × ORes)}, k nm fr pc hp o = some outs → ∀ (B : Base) (ν : Env G) (ρ : Nat → Nat) (a : Act) (w : World), ν.I = I → FR ν ρ fr a → pcDen ν pc → HW B ν ρ hp w → OutsOK P B o a w hp nm ν ρ outs) : OOK P (O.withOp k) I where
  call := oo.call
  loop := oo.loop
  tail := oo.tail
  order := oo.order
  op := by
    intro nm fr pc hp o outs ho B ν ρ a w hI hpu hf hpc hw
    unfold Orac.withOp at ho
    simp only at ho
    split at ho
    · rename_i r hr
      cases ho
      exact h hr B ν ρ a w hI hf hpc hw
    · exact oo.op ho B ν ρ a w hI hpu hf hpc hw
end

/-! x[lo:hi] where the bounds are symbolic; elements of one cell -/
def boundX (d : SI) : Option SV → Option SI
  | none => some d
  | some (.int _ e) => some e
  | _ => none
def isLitS : Option SV → Bool
  | none => true
  | some (.int _ (.lit _)) => true
  | _ => false
def sliceS (P : Program) (pc : PC) (t : Nat) (x : SV) (lo hi : Option SV) : Option (List (PC × Option SV)) :=
  match P.underlying t with
  | some (.slice e) => match sizeT P e, x with
    | some 1, .sl b off len cap => match boundX (.lit 0) lo, boundX (SI.mkNat len) hi with
      | some l, some h => some (ways (need pc [SB.mkLe (.lit 0) off, SB.mkLe (.lit 0) l, SB.mkLe l h, SB.mkLe h cap, SB.mkLt l cap]) (.sl b (SI.mkAdd off l) (SI.mkSub h l) (SI.mkSub cap l)))
      | _, _ => none
    | _, _ => none
  | _ => none
def opSlice (P : Program) (_ : Nat) (fr : List SV) (pc : PC) (hp : Heap) (o : Oper) : Option (List (PC × ORes)) :=
  match o.op with
  | .slice t x lo hi none => match evalO fr x, optL fr lo, optL fr hi with
    | some v, some l, some h => (sliceS P pc t v l h).map (outsV hp)
    | _, _, _ => none
  | _ => none

section
variable {P : Program} {G : Type} {ν : Env G} {ρ : Nat → Nat}
theorem boundX_den {d e : SI} {x : Option SV} (h : boundX d x = some e) : (x = none ∧ e = d) ∨ ∃ j, (x.map (·.den ν ρ)) = some (.int j (e.den ν)) := by
  unfold boundX at h
  split at h
  · cases h; exact .inl ⟨rfl, rfl⟩
  · rename_i j n; cases h; exact .inr ⟨j, by simp [SV.den]⟩
  · cases h

theorem sliceS_run {pc : PC} (hd : pcDen ν pc) {t : Nat} {x : SV} {lo hi : Option SV} {l : List (PC × Option SV)} (hl : sliceS P pc t x lo hi = some l) (w : World) :
    ∃ r ∈ l, pcDen ν r.1 ∧ ∀ v, r.2 = some v → (Instr.sliceAt t (x.den ν ρ) (lo.map (·.den ν ρ)) (hi.map (·.den ν ρ)) none).run P w = .ok (v.den ν ρ) w := by
  unfold sliceS at hl
  split at hl
  case h_2 => cases hl
  rename_i e hu
  split at hl
  case h_2 => cases hl
  rename_i b off len cap hn
  split at hl
  case h_2 => cases hl
  rename_i lx hx hlx hhx
  cases hl
  obtain ⟨r, hr, hp, hv⟩ := ways_den (cs := [SB.mkLe (.lit 0) off, SB.mkLe (.lit 0) lx, SB.mkLe lx hx, SB.mkLe hx cap, SB.mkLt lx cap]) (SV.sl b (SI.mkAdd off lx) (SI.mkSub hx lx) (SI.mkSub cap lx)) hd
  refine ⟨r, hr, hp, fun v hv' => ?_⟩
  obtain ⟨rfl, hc⟩ := hv v hv'
  simp only [List.mem_cons, List.not_mem_nil, or_false, forall_eq_or_imp, forall_eq, SB.mkLe_den, SB.mkLt_den, decide_eq_true_eq] at hc
  simp only [SI.den] at hc
  obtain ⟨c0, c1, c2, c3, c4⟩ := hc
  have g1 := boundX_den (ν := ν) (ρ := ρ) hlx
  have g2 := boundX_den (ν := ν) (ρ := ρ) hhx
  have key : (Instr.sliceBounds true (len.den ν).toNat (cap.den ν).toNat (lo.map (·.den ν ρ)) (hi.map (·.den ν ρ)) none).run P w = .ok ((lx.den ν).toNat, (hx.den ν).toNat, (cap.den ν).toNat) w := by
    refine run_bounds (P := P) _ _ (cap.den ν).toNat (hx.den ν).toNat (lx.den ν).toNat _ _ _ (.inl ⟨rfl, rfl⟩) ?_ ?_ (Nat.le_refl _) (by omega) (by omega) w
    · rcases g2 with ⟨h1, h2⟩ | ⟨j, h⟩
      · refine .inl ⟨by simp [h1], rfl, ?_⟩
        rw [h2, SI.mkNat_den]; omega
      · exact .inr ⟨j, by rw [h, Int.toNat_of_nonneg (by omega)]⟩
    · rcases g1 with ⟨h1, h2⟩ | ⟨j, h⟩
      · exact .inl ⟨by simp [h1], by rw [h2]; rfl⟩
      · exact .inr ⟨j, by rw [h, Int.toNat_of_nonneg (by omega)]⟩
  have hml : ¬ (cap.den ν).toNat = (lx.den ν).toNat := by omega
  have e1 : (off.den ν + lx.den ν).toNat = (off.den ν).toNat + (lx.den ν).toNat := by omega
  have e2 : (hx.den ν - lx.den ν).toNat = (hx.den ν).toNat - (lx.den ν).toNat := by omega
  have e3 : (cap.den ν - lx.den ν).toNat = (cap.den ν).toNat - (lx.den ν).toNat := by omega
  simp only [Instr.sliceAt, Instr.slice, SV.den, Sem.run_bind, run_underlying hu, Result.andThen_ok, key, sizeT_run hn, Sem.run_pure, SI.mkAdd_den, SI.mkSub_den, e1, e2, e3]
  simp [hml, add_none]

theorem opSlice_ok {O : Orac} {I : In G} (oo : OOK P O I) : OOK P (O.withOp (opSlice P)) I := by
  refine withOp_ok oo ?_
  intro nm fr pc hp o outs hk B ν ρ a w hI hf hpc hw
  unfold opSlice at hk
  split at hk
  case h_2 => cases hk
  rename_i t x lo hi hop
  split at hk
  case h_2 => cases hk
  rename_i v l h hv hl hh
  simp only [Option.map_eq_some_iff] at hk
  obtain ⟨ls, hls, rfl⟩ := hk
  obtain ⟨r, hr, hp', hrun⟩ := sliceS_run (ν := ν) (ρ := ρ) hpc hls w
  refine out_V hw hr hp' fun u hu => ?_
  have := hrun u hu
  simp only [execOp, hop, hf.eval hv, optL_den hf hl, optL_den hf hh, Option.map_none]
  simp [this]
end
end Go.Sy
end

section
namespace Go.Sy
open Go Go.RowKit

/-! ### loops whose heads have several forms -/
/-- A leaf against the heads, or the ways out. -/
def sumHd (P : Program) (nm lo sz : Nat) (heads tg : List Tgt) (L : Leaf) : Option SumT := match L.ex with
  | .bad => some ⟨.bad, 0, .none, L.pc⟩
  | .normal => (findT P nm lo sz L 0 heads).map fun x => ⟨.normal, x.1, x.2, L.pc⟩
  | ex => (findT P nm lo sz L 0 tg).map fun x => ⟨ex, x.1, x.2, L.pc⟩
def sumsHd (P : Program) (nm lo sz : Nat) (heads tg : List Tgt) : List Leaf → Option (List SumT)
  | [] => some []
  | L :: r => match sumHd P nm lo sz heads tg L, sumsHd P nm lo sz heads tg r with
    | some s, some l => some (s :: l)
    | _, _ => none
theorem sumsHd_mem {P : Program} {nm lo sz : Nat} {heads tg : List Tgt} : ∀ {ls : List Leaf} {l : List SumT}, sumsHd P nm lo sz heads tg ls = some l → ∀ L ∈ ls, ∃ s ∈ l, sumHd P nm lo sz heads tg L = some s
  | [], _, _, L, hL => by cases hL
  | M :: r, l, h, L, hL => by
    unfold sumsHd at h
    split at h
    · rename_i s l' hs hl
      cases h
      rcases List.mem_cons.1 hL with rfl | hL
      · exact ⟨s, by simp, hs⟩
      · obtain ⟨s', hs', he⟩ := sumsHd_mem hl L hL
        exact ⟨s', by simp [hs'], he⟩
    · cases h

section
variable {P : Program} {G : Type} {O : Orac} {I : In G}
/-- A loop whose head has one of several forms; 'J', 'm': by the form's number. -/
theorem loopH_ok (pr : PR P) (oo : OOK P O I) {f s n it : Nat} {nm : Nat} (hnm : nm = nmAt s) (hs : Nat.ble s 100000 = true) (h1 : (loopsAt P f s).length = 1) {fr0 : List SV} {hp0 : Heap} {bads : PC} {heads tg : List Tgt} {sums : List (List SumT)} {start : Mt} {h0 : Tgt} (d : G)
    (hlen : sums.length = heads.length)
    (hbody : ∀ (i : Nat) (h : Tgt) (ss : List SumT), heads[i]? = some h → sums[i]? = some ss → (codeX P O LO7 SZ7 f n it (loopAt P f s) h.fr h.pc h.hp).bind (sumsHd P nm LO7 SZ7 heads tg) = some ss)
    (hh0 : heads[0]? = some h0) (hst : mAll nm 0 0 P fr0 hp0 h0.fr h0.hp = some start)
    (J : Nat → Env G → Vals G → Prop) (m : Nat → Env G → Vals G → Nat)
    (hstart : ∀ ν, ν.I = I → (∀ x ∈ bads, x.1.den ν ≠ x.2) → J 0 ν (start.vals d ν) ∧ pcDen (ν.at nm (start.vals d ν)) h0.pc ∧ start.Owed ν (ν.at nm (start.vals d ν)))
    (round : ∀ (i : Nat) (h : Tgt) (ss : List SumT), heads[i]? = some h → sums[i]? = some ss → ∀ t ∈ ss, ∀ ν x ν2, ν.I = I → (∀ y ∈ bads, y.1.den ν ≠ y.2) → J i ν x → pcDen (ν.at nm x) h.pc → RF nm ν x ν2 → pcDen ν2 t.pc →
      match t.ex with
      | .normal => ∀ g, heads[t.k]? = some g → J t.k ν (t.mt.vals d ν2) ∧ pcDen (ν.at nm (t.mt.vals d ν2)) g.pc ∧ m t.k ν (t.mt.vals d ν2) < m i ν x ∧ t.mt.Owed ν2 (ν.at nm (t.mt.vals d ν2))
      | .bad => False
      | _ => (∀ g, tg[t.k]? = some g → pcDen (ν.at nm (t.mt.vals d ν2)) g.pc) ∧ t.mt.Owed ν2 (ν.at nm (t.mt.vals d ν2))) {O' : Orac} (oo' : OOK P O' I) :
    OOK P (O'.withLoop f s nm fr0 hp0 (mkM nm tg bads)) I := by
  have hsm : ∀ {m : Nat}, m < 1000 → out nm (nm + 64) m = true := fun h => by rw [hnm]; exact out_small h
  have hbg : ∀ {j : Nat}, j < 64 → out LO7 (LO7 + SZ7) (nm + j) = true := fun h => by rw [hnm]; exact out_nm7 hs h
  have hbs : ∀ {m : Nat}, m < 1000 → out LO7 (LO7 + SZ7) m = true := fun h => out_big7 h
  refine withLoop_ok oo' h1 ?_
  intro pc sub hsub hpart B ν ρ Q hQ hI hl act w hpc hf hw
  unfold mkM at hl
  cases hp : pav nm (nm + 64) pc with
  | false => rw [hp] at hl; exact (hl ⟨.bad, [], [], []⟩ (by simp) act w ⟨ν, ρ, Agree.refl _ _ _ _, pcDen_nil _, fun h => h.elim⟩).elim
  | true =>
    rw [hp] at hl
    simp only [if_true] at hl
    have hbad : ∀ x ∈ bads, x.1.den ν ≠ x.2 := prune_denG hpc fun x hx he =>
      (hl ⟨.bad, [], x :: pc, []⟩ (List.mem_append_right _ (List.mem_map.2 ⟨x, hx, rfl⟩)) act w ⟨ν, ρ, Agree.refl _ _ _ _, pcDen_one' he hpc, fun h => h.elim⟩).elim
    have hmono : ∀ {ν3 : Env G} {ρ3 : Nat → Nat}, Agree nm (nm + 64) ν ν3 ρ ρ3 → Agree nm (nm + sub) ν ν3 ρ ρ3 := fun h => h.mono (Nat.ble_eq_true_of_le (Nat.le_refl _)) (Nat.ble_eq_true_of_le (by omega))
    -- one way from what is there to the head's form
    have conv : ∀ {lo' sz' : Nat} {x1 : Vals G} {ν1 ν2 : Env G} {ρ1 ρ2 : Nat → Nat} {mt : Mt} {us ts : List SV} {hu ht : Heap}, Agree nm (nm + 64) ν ν1 ρ ρ1 → Agree lo' (lo' + sz') ν1 ν2 ρ1 ρ2 → mAll nm lo' sz' P us hu ts ht = some mt → mt.Owed ν2 (ν.at nm (mt.vals d ν2)) →
        ∃ ρ3, Agree nm (nm + 64) ν (ν.at nm (mt.vals d ν2)) ρ ρ3 ∧ (∀ act, FR ν2 ρ2 us act → FR (ν.at nm (mt.vals d ν2)) ρ3 ts act) ∧ ∀ w, HW B ν2 ρ2 hu w → HW B (ν.at nm (mt.vals d ν2)) ρ3 ht w := by
      intro lo' sz' x1 ν1 ν2 ρ1 ρ2 mt us ts hu ht a1 a2 hm ho
      have hfine := mAll_fine hm
      let ρ3 : Nat → Nat := fun m => match inH nm m, lkp m mt.b with | true, some n => ρ2 n | _, _ => ρ m
      have hr3 : ∀ n, out nm (nm + 64) n = true → ρ3 n = ρ n := fun n hn => by
        show (match inH nm n, lkp n mt.b with | true, some n => ρ2 n | _, _ => ρ n) = ρ n
        rw [inH_out hn]
      have a3 : Agree nm (nm + 64) ν (ν.at nm (mt.vals d ν2)) ρ ρ3 := at_agree hr3
      have hsat : mt.Sat nm ν2 (ν.at nm (mt.vals d ν2)) ρ2 ρ3 := mt_sat hfine (fun j hj => at_i hj) (fun j hj => at_l hj) (fun j hj => at_g hj) ho
      have kr : KeepR nm lo' sz' ρ2 ρ3 := fun n h1 h2 => by rw [hr3 n h1, a2.r n h2, a1.r n h1]
      obtain ⟨k1, k2⟩ := mAll_den (okAll_of a1 a2 a3) kr hm hsat
      exact ⟨ρ3, a3, k1, fun w => k2 B w⟩
    obtain ⟨g1, g2, g3⟩ := hstart ν hI hbad
    obtain ⟨ρ0, s1, s2, s3⟩ := conv (x1 := start.vals d ν) (Agree.refl _ _ ν ρ) (Agree.refl 0 (0 + 0) ν ρ) hst g3
    refine wp_loop_ghost (fun k act w => ∃ i h x ρ1, heads[i]? = some h ∧ Agree nm (nm + 64) ν (ν.at nm x) ρ ρ1 ∧ J i ν x ∧ pcDen (ν.at nm x) h.pc ∧ m i ν x = k ∧ FR (ν.at nm x) ρ1 h.fr act ∧ HW B (ν.at nm x) ρ1 h.hp w) (m 0 ν (start.vals d ν)) ⟨0, h0, _, ρ0, hh0, s1, g1, g2, rfl, s2 _ hf, s3 _ hw⟩ ?_
    rintro k act w ⟨i, h, x, ρ1, hi, k1, k2, k3, k4, k5, k6⟩
    have hlt : i < sums.length := by rw [hlen]; exact (List.getElem?_eq_some_iff.1 hi).1
    obtain ⟨ss, hss⟩ : ∃ ss, sums[i]? = some ss := ⟨_, List.getElem?_eq_getElem hlt⟩
    have hbody := hbody i h ss hi hss
    cases hb : codeX P O LO7 SZ7 f n it (loopAt P f s) h.fr h.pc h.hp with
    | none => rw [hb] at hbody; cases hbody
    | some lsB =>
    rw [hb] at hbody
    simp only [Option.bind_some] at hbody
    refine x_code pr oo hb hpart B (ν.at nm x) ρ1 (Exit.then _ Q) (k1.I.trans hI) (fun ch a w hq => hQ ch a w hq) ?_ act w ⟨ν.at nm x, ρ1, Agree.refl _ _ _ _, k3, fun _ => ⟨k5, k6⟩⟩
    rintro L hL act' w' ⟨ν2, ρ2, e1, e2, e3⟩
    obtain ⟨t, ht, hsum⟩ := sumsHd_mem hbody L hL
    have rf : RF nm ν x ν2 :=
      ⟨e1.I.trans k1.I, fun j hj => (e1.i _ (hbg hj)).trans (at_i hj), fun j hj => (e1.l _ (hbg hj)).trans (at_l hj), fun j hj => (e1.g _ (hbg hj)).trans (at_g hj),
        fun j hj => (e1.i _ (hbs hj)).trans (at_io (hsm hj)), fun j hj => (e1.l _ (hbs hj)).trans (at_lo (hsm hj)), fun j hj => (e1.g _ (hbs hj)).trans (at_go (hsm hj)), fun j hj => (e1.b _ (hbs hj))⟩
    have hr := round i h ss hi hss t ht ν x ν2 hI hbad k2 k3 rf
    unfold sumHd at hsum
    cases hex : L.ex with
    | normal =>
      rw [hex] at hsum e3
      simp only [Option.map_eq_some_iff] at hsum
      obtain ⟨⟨k', mt⟩, hfind, rfl⟩ := hsum
      obtain ⟨-, t', ht', m2, hm⟩ := findT_some hfind
      rw [Nat.sub_zero] at ht'
      obtain ⟨q1, q2, q3, q4⟩ := hr e2 t' ht'
      obtain ⟨hf2, hw2⟩ := e3 trivial
      obtain ⟨ρ3, b1, b2, b3⟩ := conv (x1 := x) k1 e1 hm q4
      exact ⟨_, by rw [← k4]; exact q3, k', t', _, ρ3, ht', b1, q1, q2, rfl, b2 _ hf2, b3 _ hw2⟩
    | exit i' =>
      rw [hex] at hsum e3
      simp only [Option.map_eq_some_iff] at hsum
      obtain ⟨⟨k', mt⟩, hfind, rfl⟩ := hsum
      obtain ⟨-, t', ht', m2, hm⟩ := findT_some hfind
      rw [Nat.sub_zero] at ht'
      have m1 := List.mem_of_getElem? ht'
      rw [hex] at m2
      obtain ⟨q2, q3⟩ := hr e2
      obtain ⟨hf2, hw2⟩ := e3 trivial
      obtain ⟨ρ3, b1, b2, b3⟩ := conv (x1 := x) k1 e1 hm q3
      have := hl ⟨t'.ex, t'.fr, t'.pc ++ pc, t'.hp⟩ (List.mem_append_left _ (List.mem_map.2 ⟨t', List.mem_filter.2 ⟨m1, by rw [m2]; rfl⟩, rfl⟩)) act' w'
        ⟨_, ρ3, hmono b1, pcDen_append (q2 t' ht') (pcDen_agree b1 hp hpc), fun _ => ⟨b2 _ hf2, b3 _ hw2⟩⟩
      simp only [m2] at this
      exact this
    | ret =>
      rw [hex] at hsum e3
      simp only [Option.map_eq_some_iff] at hsum
      obtain ⟨⟨k', mt⟩, hfind, rfl⟩ := hsum
      obtain ⟨-, t', ht', m2, hm⟩ := findT_some hfind
      rw [Nat.sub_zero] at ht'
      have m1 := List.mem_of_getElem? ht'
      rw [hex] at m2
      obtain ⟨q2, q3⟩ := hr e2
      obtain ⟨hf2, hw2⟩ := e3 trivial
      obtain ⟨ρ3, b1, b2, b3⟩ := conv (x1 := x) k1 e1 hm q3
      have := hl ⟨t'.ex, t'.fr, t'.pc ++ pc, t'.hp⟩ (List.mem_append_left _ (List.mem_map.2 ⟨t', List.mem_filter.2 ⟨m1, by rw [m2]; rfl⟩, rfl⟩)) act' w'
        ⟨_, ρ3, hmono b1, pcDen_append (q2 t' ht') (pcDen_agree b1 hp hpc), fun _ => ⟨b2 _ hf2, b3 _ hw2⟩⟩
      simp only [m2] at this
      exact this
    | bad =>
      rw [hex] at hsum
      simp only [Option.some.injEq] at hsum
      subst hsum
      exact (hr e2).elim
end

/-! ### a loop that runs on known values alone, round by round -/
def noOwe (m : Mt) : Bool := m.qi.isEmpty && m.ql.isEmpty && m.qb.isEmpty && m.qg.isEmpty
theorem noOwe_owed {G : Type} {m : Mt} (h : noOwe m = true) (ν2 ν3 : Env G) : m.Owed ν2 ν3 := by
  unfold noOwe at h
  simp only [Bool.and_eq_true, List.isEmpty_iff] at h
  obtain ⟨⟨⟨h1, h2⟩, h3⟩, h4⟩ := h
  exact ⟨fun y hy => (by rw [h1] at hy; cases hy), fun y hy => (by rw [h2] at hy; cases hy), fun y hy => (by rw [h3] at hy; cases hy), fun y hy => (by rw [h4] at hy; cases hy)⟩
def litSum (i : Nat) (t : SumT) : Bool := noOwe t.mt && (match t.ex with
  | .normal => Nat.beq t.k (i + 1)
  | .bad => false
  | _ => true)
def litAll (n : Nat) (l : List (List SumT)) : Bool := match l with
  | [] => true
  | ss :: r => ss.all (litSum n) && litAll (n + 1) r
theorem litAll_get : ∀ {l : List (List SumT)} {n i : Nat} {ss : List SumT}, litAll n l = true → l[i]? = some ss → ∀ t ∈ ss, litSum (n + i) t = true
  | [], _, _, _, _, h => by simp at h
  | s0 :: r, n, i, ss, hl, h => by
    simp only [litAll, Bool.and_eq_true] at hl
    cases i with
    | zero =>
      simp only [List.getElem?_cons_zero, Option.some.injEq] at h
      subst h
      intro t ht
      exact List.all_eq_true.1 hl.1 t ht
    | succ i =>
      intro t ht
      have := litAll_get hl.2 (by simpa using h) t ht
      rwa [show n + 1 + i = n + (i + 1) by omega] at this
section
variable {P : Program} {G : Type} {O : Orac} {I : In G}
theorem loopL_ok (pr : PR P) (oo : OOK P O I) {f s n it : Nat} {nm : Nat} (hnm : nm = nmAt s) (hs : Nat.ble s 100000 = true) (h1 : (loopsAt P f s).length = 1) {fr0 : List SV} {hp0 : Heap} {heads tg : List Tgt} {sums : List (List SumT)} {start : Mt} {h0 : Tgt} (d : G)
    (hlen : sums.length = heads.length)
    (hbody : ∀ (i : Nat) (h : Tgt) (ss : List SumT), heads[i]? = some h → sums[i]? = some ss → (codeX P O LO7 SZ7 f n it (loopAt P f s) h.fr h.pc h.hp).bind (sumsHd P nm LO7 SZ7 heads tg) = some ss)
    (hh0 : heads[0]? = some h0) (hst : mAll nm 0 0 P fr0 hp0 h0.fr h0.hp = some start) (hso : noOwe start = true)
    (hpcs : (heads.all fun h => h.pc.isEmpty) = true) (hpct : (tg.all fun h => h.pc.isEmpty) = true) (hlit : litAll 0 sums = true) {O' : Orac} (oo' : OOK P O' I) :
    OOK P (O'.withLoop f s nm fr0 hp0 (mkM nm tg [])) I := by
  have e1 : ∀ {i : Nat} {h : Tgt}, heads[i]? = some h → ∀ ν : Env G, pcDen ν h.pc := fun {i h} hh ν => by
    have := List.all_eq_true.1 hpcs h (List.mem_of_getElem? hh)
    rw [List.isEmpty_iff.1 this]; exact pcDen_nil _
  have e2 : ∀ {i : Nat} {h : Tgt}, tg[i]? = some h → ∀ ν : Env G, pcDen ν h.pc := fun {i h} hh ν => by
    have := List.all_eq_true.1 hpct h (List.mem_of_getElem? hh)
    rw [List.isEmpty_iff.1 this]; exact pcDen_nil _
  refine loopH_ok (bads := []) pr oo hnm hs h1 d hlen hbody hh0 hst (fun _ _ _ => True) (fun i _ _ => heads.length - i) (fun ν _ _ => ⟨trivial, e1 hh0 _, noOwe_owed hso _ _⟩) ?_ oo'
  intro i h ss hi hss t ht ν x ν2 hI _ _ _ _ _
  have hl := litAll_get hlit hss t ht
  rw [Nat.zero_add] at hl
  unfold litSum at hl
  simp only [Bool.and_eq_true] at hl
  have ho := fun ν2 ν3 => noOwe_owed (G := G) hl.1 ν2 ν3
  have hl2 := hl.2
  revert hl2
  cases t.ex with
  | normal =>
    intro hk g hg
    have hk := Nat.eq_of_beq_eq_true hk
    have := (List.getElem?_eq_some_iff.1 hg).1
    exact ⟨trivial, e1 hg _, by rw [hk] at this ⊢; omega, ho _ _⟩
  | bad => intro hk; cases hk
  | ret => intro _; exact ⟨fun g hg => e2 hg _, ho _ _⟩
  | exit j => intro _; exact ⟨fun g hg => e2 hg _, ho _ _⟩
end
/-! ### a state in a head's names -/
def reach1 (hp : Heap) (ns : List Nat) : List Nat := hp.foldl (fun ns x => if inL x.1 ns then x.2.nms ns else ns) ns
def reachN (hp : Heap) : Nat → List Nat → List Nat
  | 0, ns => ns
  | k + 1, ns => reachN hp k (reach1 hp ns)
def canS (nm : Nat) (fm : List Nat) : Sub :=
  ⟨fun n => if p0 n then .var n else .var (nm + ixN n fm), fun n => if p0 n then .var n else .var (nm + ixN n fm), fun n => if p0 n then .var n else .var (nm + ixN n fm), .var, fun n => if p0 n then n else nm + ixN n fm⟩
/-- The state, its blocks under the head's names; what nobody leads to is left out. -/
def canon (nm : Nat) (L : Leaf) : Leaf :=
  let fm := (reachN L.hp L.hp.length (nmsL L.fr [])).reverse
  { L with fr := sbL (canS nm fm) L.fr, hp := putAll (canS nm fm) (L.hp.filter fun x => p0 x.1 || inL x.1 fm) [] }
/-- The states of a loop that runs on known values: head by head; the way out. -/
def chain (P : Program) (O : Orac) (f s nm : Nat) : Nat → Leaf → List Tgt × List Tgt
  | 0, _ => ([], [])
  | k + 1, L => match codeX P O LO7 SZ7 f 6000 0 (loopAt P f s) L.fr [] L.hp with
    | some [M] => match M.ex with
      | .normal => let r := chain P O f s nm k (canon nm { M with pc := [] })
        (⟨.normal, L.fr, L.hp, []⟩ :: r.1, r.2)
      | ex => let c := canon nm M
        ([⟨.normal, L.fr, L.hp, []⟩], [⟨ex, c.fr, c.hp, []⟩])
    | _ => ([], [])
end Go.Sy
end

section
namespace Go.Sy
open Go Go.RowKit

/-- at least so many -/
def lenLow : SL → Nat
  | .cons _ l => lenLow l + 1
  | .app a b => lenLow a + lenLow b
  | _ => 0
def hiOK (l : SL) : SI → Bool
  | .lit n => decide (n ≤ lenLow l)
  | .len m => m.beq l
  | _ => false
/-- what is known of a row's room, where it is cut -/
def roomF (hp : Heap) (v : SV) (lo hi : Option SV) : PC := match v with
  | .sl b _ len cap => match hget b hp, boundX (.lit 0) lo, boundX (SI.mkNat len) hi with
    | some (.row _ l c _), some x, some y => if c.beq cap then
        (if hiOK l y then [asm (SB.mkLe y cap) true] else []) ++ (match x with | .lit n => if decide (n < lenLow l) then [asm (SB.mkLt x cap) true] else [] | _ => [])
      else []
    | _, _, _ => []
  | _ => []
def opSliceR (P : Program) (_ : Nat) (fr : List SV) (pc : PC) (hp : Heap) (o : Oper) : Option (List (PC × ORes)) :=
  match o.op with
  | .slice t x lo hi none => match evalO fr x, optL fr lo, optL fr hi with
    | some v, some l, some h => (sliceS P (roomF hp v l h ++ pc) t v l h).map (outsV hp)
    | _, _, _ => none
  | _ => none

section
variable {P : Program} {G : Type} {ν : Env G} {ρ : Nat → Nat}
theorem lenLow_le : ∀ l : SL, lenLow l ≤ (l.den ν).length
  | .nil => by simp [lenLow]
  | .cons x l => by have := lenLow_le l; simp only [lenLow, SL.den, List.length_cons]; omega
  | .app a b => by have := lenLow_le a; have := lenLow_le b; simp only [lenLow, SL.den, List.length_append]; omega
  | .var _ => by simp [lenLow]
  | .set _ _ _ => by simp [lenLow]
  | .take _ _ => by simp [lenLow]
  | .drop _ _ => by simp [lenLow]
  | .rep _ _ => by simp [lenLow]
  | .gl _ _ _ _ => by simp [lenLow]
theorem hiOK_le {l : SL} {y : SI} (h : hiOK l y = true) : y.den ν ≤ ((l.den ν).length : Int) := by
  unfold hiOK at h
  split at h
  · have := lenLow_le (ν := ν) l
    simp only [decide_eq_true_eq] at h
    simp only [SI.den]; omega
  · rename_i m
    rw [SL.beq_eq h]; simp [SI.den]
  · cases h
theorem roomF_den {B : Base} {hp : Heap} {w : World} (hw : HW B ν ρ hp w) (v : SV) (lo hi : Option SV) : pcDen ν (roomF hp v lo hi) := by
  unfold roomF
  split
  case h_2 => exact pcDen_nil ν
  rename_i b off len cap
  split
  case h_2 => exact pcDen_nil ν
  rename_i k l c ty x y hg hx hy
  split
  case isFalse => exact pcDen_nil ν
  rename_i hc
  have hc := SI.beq_eq hc
  subst hc
  obtain ⟨F, h1, _, _⟩ := hw.foot
  have hb := h1 b _ (hget_mem hg)
  simp only [BlkDen] at hb
  obtain ⟨⟨rest, _, hcap, _⟩, _⟩ := hb
  have hl := lenLow_le (ν := ν) l
  refine pcDen_append ?_ ?_
  · split
    · rename_i ho
      have := hiOK_le (ν := ν) ho
      exact pcDen_asm1 (by rw [SB.mkLe_den]; exact decide_eq_true (by omega))
    · exact pcDen_nil ν
  · split
    · split
      · rename_i hn
        simp only [decide_eq_true_eq] at hn
        exact pcDen_asm1 (by rw [SB.mkLt_den]; exact decide_eq_true (by simp only [SI.den]; omega))
      · exact pcDen_nil ν
    · exact pcDen_nil ν
theorem opSliceR_ok {O : Orac} {I : In G} (oo : OOK P O I) : OOK P (O.withOp (opSliceR P)) I := by
  refine withOp_ok oo ?_
  intro nm fr pc hp o outs hk B ν ρ a w hI hf hpc hw
  unfold opSliceR at hk
  split at hk
  case h_2 => cases hk
  rename_i t x lo hi hop
  split at hk
  case h_2 => cases hk
  rename_i v l h hv hl hh
  simp only [Option.map_eq_some_iff] at hk
  obtain ⟨ls, hls, rfl⟩ := hk
  obtain ⟨r, hr, hp', hrun⟩ := sliceS_run (ν := ν) (ρ := ρ) (pcDen_append (roomF_den hw v l h) hpc) hls w
  refine out_V hw hr hp' fun u hu => ?_
  have := hrun u hu
  simp only [execOp, hop, hf.eval hv, optL_den hf hl, optL_den hf hh, Option.map_none]
  simp [this]
end
end Go.Sy
end

section
namespace Go.Sy
open Go Go.RowKit

def appWRoom (P : Program) (hp : Heap) (nm : Nat) (k : IntKind) (e b : Nat) (l : SL) (c off len cap : SI) (nl : SL) : SV × Heap :=
  (.sl b off (SI.mkAdd len (SI.mkLen nl)) cap, hset b (.row k (SL.mkApp (SL.mkTake l (SI.mkAdd off len)) nl) c e) hp)
def appWGrow (P : Program) (hp : Heap) (nm : Nat) (k : IntKind) (e b : Nat) (l : SL) (off len : SI) (nl : SL) : SV × Heap :=
  (.sl nm (.lit 0) (SI.mkAdd len (SI.mkLen nl)) (.var nm), hadd nm (.row k (SL.mkApp (SL.mkTake (SL.mkDrop l off) len) nl) (.var nm) e) (herase b hp))
def appendW (P : Program) (nm : Nat) (pc : PC) (hp : Heap) (t : Nat) (s : SV) (nl : SL) : Option (List (PC × Option (SV × Heap))) :=
  match P.underlying t with
  | some (.slice e) =>
    match P.underlying e, sizeT P e, P.info? e, zeroT P e with
    | some (.int k), some 1, some inf, some z =>
      if Nat.ble inf.bytes 64 && Nat.ble 1 inf.bytes && Nat.beq z.cellsOf.length 1 then
      match s with
      | .sl b off len cap => match hget b hp with
        | some bk => match asRow P bk with
          | some (j, l, c, ty) =>
            if kBeq j k && Nat.beq ty e && nl.av nm (nm + 1) && off.av nm (nm + 1) && len.av nm (nm + 1) && hav nm (nm + 1) hp then
              some ((need pc [SB.mkLe (.lit 0) off, SB.mkLe (.lit 0) len, SB.mkLe (SI.mkAdd off len) (SI.mkLen l), SB.mkLe (SI.mkAdd off cap) c, SB.mkLe len cap, SB.mkLt (SI.mkAdd len (SI.mkLen nl)) (.lit 1099511627776)]).flatMap fun x =>
                if x.2 then
                  match (SB.mkLe (SI.mkAdd len (SI.mkLen nl)) cap).known (x.1 ++ pc) with
                  | some true => [(x.1, some (appWRoom P hp nm k e b l c off len cap nl))]
                  | some false => [(x.1, some (appWGrow P hp nm k e b l off len nl))]
                  | none => [(asm (SB.mkLe (SI.mkAdd len (SI.mkLen nl)) cap) true :: x.1, some (appWRoom P hp nm k e b l c off len cap nl)), (asm (SB.mkLe (SI.mkAdd len (SI.mkLen nl)) cap) false :: x.1, some (appWGrow P hp nm k e b l off len nl))]
                else [(x.1, none)])
            else none
          | none => none
        | none => none
      | _ => none
      else none
    | _, _, _, _ => none
  | _ => none
/-- Where 'append' cannot be seen as one of a whole row. -/
def opAppendW (P : Program) (nm : Nat) (fr : List SV) (pc : PC) (hp : Heap) (o : Oper) : Option (List (PC × ORes)) :=
  match o.op with
  | .call { callee := .builtin .append, args, argTypes } => match evalOL fr args.toList, argTypes.toList with
    | some [s, x], [t, u] => match P.underlying u with
      | some (.slice e) => if Nat.beq t u then match P.underlying e with
        | some (.int k) => match listX P pc hp k x with
          | some [([], some nl)] => match appendR P nm pc hp t s nl with
            | some _ => none
            | none => (appendW P nm pc hp t s nl).map outsVH
          | _ => none
        | _ => none
        else none
      | _ => none
    | _, _ => none
  | _ => none

section
variable {P : Program} {G : Type} {ν : Env G} {ρ : Nat → Nat} {B : Base} {hp : Heap} {w : World}

theorem row_room {t e ty : Nat} {inf : TypeInfo} (hut : P.underlying t = some (.slice e)) (hi : P.info? e = some inf) (hsize : inf.size = 1)
    {g off len cap : Nat} {k : IntKind} {l m : List Int} {rest : List Value} (hr : w.heap[g]? = some (.cells (l.map (Value.int k) ++ rest).toArray e (0, 0))) (hlen : off + len ≤ l.length) (hcap : off + cap ≤ l.length + rest.length)
    {xv : Value} (hx : Reads w xv (m.map (Value.int k))) (hroom : len + m.length ≤ cap) :
    ∃ rest' w', (Builtin.append_ #[t, t] ty #[.slice (some ⟨g, off, none⟩) len cap, xv]).run P w = .ok (.slice (some ⟨g, off, none⟩) (len + m.length) cap) w' ∧
      w'.heap[g]? = some (.cells ((l.take (off + len) ++ m).map (Value.int k) ++ rest').toArray e (0, 0)) ∧ l.length + rest.length = (l.take (off + len) ++ m).length + rest'.length ∧
      w'.os = w.os ∧ w'.tape = w.tape ∧ w'.output = w.output ∧ w'.heap.size = w.heap.size ∧ ∀ j, j ≠ g → w'.heap[j]? = w.heap[j]? := by
  obtain ⟨xa, n, cx, rfl, hxl, hxr⟩ := hx
  have hn : m.length = n := by simpa using hxl
  subst hn
  by_cases h0 : m = []
  · subst h0
    refine ⟨(l.drop (off + len)).map (Value.int k) ++ rest, w, ?_, ?_, ?_, rfl, rfl, rfl, rfl, fun _ _ => rfl⟩
    · have : len ≤ cap := by simpa using hroom
      simp [Builtin.append_, run_underlying hut, sizeOf, typeInfo, hi, Builtin.lenOf, firstCells_empty, this, storeCells]
    · rw [hr]; congr 2
      rw [List.append_nil, ← List.append_assoc, ← List.map_append, List.take_append_drop]
    · simp; omega
  · rcases hxr with ⟨hnil, _⟩ | ⟨ad, rfl, hcell⟩
    · exact absurd (List.map_eq_nil_iff.1 hnil) h0
    · have hf := run_firstCells_some (P := P) w inf.size m.length ad m.length cx (m.map (Value.int k)) (by simp [hsize]) hcell
      have hst := run_storeCells_at P g (off + len * inf.size) e (m.map (Value.int k)) 0 _ w hr (by simp [hsize]; omega) (fun u hu => by obtain ⟨y, _, rfl⟩ := List.mem_map.1 hu; rfl)
      simp only [Nat.add_zero, hsize, Nat.mul_one, List.length_map] at hst
      refine ⟨((l.map (Value.int k) ++ rest).drop (off + len + m.length)), w.setRow g ((l.take (off + len) ++ m).map (Value.int k) ++ (l.map (Value.int k) ++ rest).drop (off + len + m.length)).toArray, ?_, ?_, ?_, rfl, rfl, rfl, by simp, fun j hj => setRow_other w g j _ hj⟩
      · have e1 : List.take (off + len) (l.map (Value.int k) ++ rest) = (l.take (off + len)).map (Value.int k) := by
          rw [List.take_append_of_le_length (by simpa using hlen), List.map_take]
        rw [e1, ← List.map_append] at hst
        simp only [hsize] at hf
        simp [Builtin.append_, run_underlying hut, sizeOf, typeInfo, hi, hsize, Builtin.lenOf, hroom, hf, Addr.add_lit, hst]
      · rw [setRow_heap w g _ _ e _ hr]
      · simp; omega

theorem row_grow {t e ty : Nat} {inf : TypeInfo} {z : Value} (hut : P.underlying t = some (.slice e)) (hi : P.info? e = some inf) (hz : inf.zero = some z) (hsize : inf.size = 1) (hby : inf.bytes ≤ 64) (hz1 : z.cells.size = 1)
    {g off len cap : Nat} {k : IntKind} {l m : List Int} {rest : List Value} (hr : w.heap[g]? = some (.cells (l.map (Value.int k) ++ rest).toArray e (0, 0))) (hlen : off + len ≤ l.length) (hlc : len ≤ cap)
    {xv : Value} (hx : Reads w xv (m.map (Value.int k))) (hroom : ¬ len + m.length ≤ cap) (hsm : len + m.length < 1099511627776) :
    ∃ c' rest' o, (Builtin.append_ #[t, t] ty #[.slice (some ⟨g, off, none⟩) len cap, xv]).run P w = .ok (.slice (some ⟨w.heap.size, 0, none⟩) (len + m.length) c') (w.drew.alloc o) ∧
      (w.drew.alloc o).heap[w.heap.size]? = some (.cells (((l.drop off).take len ++ m).map (Value.int k) ++ rest').toArray e (0, 0)) ∧ c' = len + m.length + rest'.length ∧ (c' : Int) ≤ 9223372036854775807 := by
  obtain ⟨xa, n, cx, rfl, hxl, hxr⟩ := hx
  have hn : m.length = n := by simpa using hxl
  subst hn
  have h0 : m ≠ [] := by rintro rfl; simp at hroom; omega
  rcases hxr with ⟨hnil, _⟩ | ⟨ad, rfl, hcell⟩
  · exact absurd (List.map_eq_nil_iff.1 hnil) h0
  · have hge := grownCap_ge w (len + m.length) cap e
    have hrun := run_append_grow (P := P) w t ty e inf z hut hi hz ⟨g, off, none⟩ len cap (((l.drop off).take len).map (Value.int k)) (by simp [hsize]; omega) (fun j u hu => by
        rw [add_none, cell_at hr]
        have hj : j < len := by have := (List.getElem?_eq_some_iff.1 hu).1; simp at this; omega
        rw [List.getElem?_append_left (by simp; omega)]
        simp only [List.getElem?_map, List.getElem?_take, List.getElem?_drop, if_pos hj] at hu ⊢
        exact hu) ad m.length cx (m.map (Value.int k)) (by simp [hsize]) hcell (by omega) (by omega)
      (growslice_fits (by omega) (by
        have : (len + m.length) * inf.bytes ≤ 1099511627776 * 64 := Nat.mul_le_mul (by omega) hby
        omega))
    refine ⟨grownCap w (len + m.length) cap e, (Builtin.zeroCells z.cells (grownCap w (len + m.length) cap e - (len + m.length))).toList, _, hrun, ?_, ?_, ?_⟩
    · rw [show w.heap.size = w.drew.heap.size from rfl, heap_alloc_new w.drew]
      congr 2
      apply Array.ext'
      simp
    · simp [size_zeroCells, hz1]; omega
    · have := grownCap_le_maxLen w (len + m.length) cap e (by simp only [maxLen]; omega)
      simp only [maxLen] at this
      omega

theorem appendW_run (h : HW B ν ρ hp w) {nm t : Nat} {pc : PC} (hd : pcDen ν pc) {s : SV} {nl : SL} {k : IntKind} {e : Nat} {xv : Value} (hut : P.underlying t = some (.slice e)) (hue : P.underlying e = some (.int k))
    (hx : Reads w xv ((nl.den ν).map (Value.int k))) {ls : List (PC × Option (SV × Heap))} (ha : appendW P nm pc hp t s nl = some ls) (ty : TypeId) :
    ∃ r ∈ ls, ∃ ν' ρ', Agree nm (nm + 1) ν ν' ρ ρ' ∧ pcDen ν r.1 ∧ ∀ y, r.2 = some y → ∃ w', (Builtin.append_ #[t, t] ty #[s.den ν ρ, xv]).run P w = .ok (y.1.den ν' ρ') w' ∧ HW B ν' ρ' y.2 w' := by
  unfold appendW at ha
  rw [hut] at ha
  simp only [hue] at ha
  split at ha
  case h_2 => cases ha
  rename_i k' inf z hk hsz hinf hz
  cases hk
  have hsize : inf.size = 1 := by unfold sizeT at hsz; rw [hinf] at hsz; simpa using hsz
  split at ha
  case isFalse => cases ha
  rename_i hby
  simp only [Bool.and_eq_true] at hby
  have hby1 := Nat.le_of_ble_eq_true hby.1.1
  have hzl := Nat.eq_of_beq_eq_true hby.2
  obtain ⟨zv, hzv, hzc⟩ := zero_one ν ρ z hz hzl hinf
  split at ha
  case h_2 => cases ha
  rename_i b off len cap
  split at ha
  case h_2 => cases ha
  rename_i bk hg
  split at ha
  case h_2 => cases ha
  rename_i j l c ty' har
  split at ha
  case isFalse => cases ha
  rename_i hc
  simp only [Bool.and_eq_true] at hc
  obtain ⟨⟨⟨⟨⟨q1, q2⟩, q3⟩, q4⟩, q5⟩, q6⟩ := hc
  have q1 := kBeq_eq q1
  have q2 := Nat.eq_of_beq_eq_true q2
  subst q1 q2
  cases ha
  obtain ⟨x, hxm, h1, h2⟩ := need_den (ν := ν) (cs := [SB.mkLe (.lit 0) off, SB.mkLe (.lit 0) len, SB.mkLe (SI.mkAdd off len) (SI.mkLen l), SB.mkLe (SI.mkAdd off cap) c, SB.mkLe len cap, SB.mkLt (SI.mkAdd len (SI.mkLen nl)) (.lit 1099511627776)]) hd
  cases hb : x.2 with
  | false => exact ⟨(x.1, none), List.mem_flatMap.2 ⟨x, hxm, by simp [hb]⟩, ν, ρ, Agree.refl _ _ _ _, h1, fun y hy => by cases hy⟩
  | true =>
    have c1 := h2 hb
    simp only [List.mem_cons, List.not_mem_nil, or_false, forall_eq_or_imp, forall_eq, SB.mkLe_den, SB.mkLt_den, SB.mkEq_den, SI.mkAdd_den, SI.mkLen_den, decide_eq_true_eq, beq_iff_eq] at c1
    simp only [SI.den] at c1
    obtain ⟨c1, c2, c3, c4, c4b, c5⟩ := c1
    obtain ⟨rest, hr, hcap, hmax⟩ := asRow_den h (hget_mem hg) har
    have hlav : l.av nm (nm + 1) = true := asRow_av har (hav_mem q6 b bk (hget_mem hg)).2
    have n1 : (off.den ν).toNat + (len.den ν).toNat ≤ (l.den ν).length := by omega
    have hle : (l.den ν).length ≤ (l.den ν).length + rest.length := by omega
    have n2 : (off.den ν).toNat + (cap.den ν).toNat ≤ (l.den ν).length + rest.length := by omega
    -- the two ways
    have hin : (SB.mkLe (SI.mkAdd len (SI.mkLen nl)) cap).den ν = true → ∃ w', (Builtin.append_ #[t, t] ty #[(SV.sl b off len cap).den ν ρ, xv]).run P w = .ok ((appWRoom P hp nm j ty' b l c off len cap nl).1.den ν ρ) w' ∧ HW B ν ρ (appWRoom P hp nm j ty' b l c off len cap nl).2 w' := by
      intro hc
      rw [SB.mkLe_den, SI.mkAdd_den, SI.mkLen_den] at hc
      replace hc := of_decide_eq_true hc
      obtain ⟨rest', w', hrun, hheap, hcap', ho, ht, hu, hs, hk⟩ := row_room (ty := ty) hut hinf hsize hr n1 n2 hx (by omega)
      refine ⟨w', ?_, ?_⟩
      · simp only [SV.den, appWRoom, SI.mkAdd_den, SI.mkLen_den]
        rw [hrun]
        congr 2
        omega
      · refine h.turn (asRow_nores har) (hget_mem hg) ho ht hu hs hk ?_
        have e1 : (off.den ν + len.den ν).toNat = (off.den ν).toNat + (len.den ν).toNat := by omega
        simp only [BlkDen, SL.mkApp_den, SL.mkTake_den, SI.mkAdd_den, e1]
        exact ⟨⟨rest', hheap, by omega, hmax⟩, fun _ => trivial⟩
    have hgr : (SB.mkLe (SI.mkAdd len (SI.mkLen nl)) cap).den ν = false → ∃ ν' ρ', Agree nm (nm + 1) ν ν' ρ ρ' ∧ ∃ w', (Builtin.append_ #[t, t] ty #[(SV.sl b off len cap).den ν ρ, xv]).run P w = .ok ((appWGrow P hp nm j ty' b l off len nl).1.den ν' ρ') w' ∧ HW B ν' ρ' (appWGrow P hp nm j ty' b l off len nl).2 w' := by
      intro hc
      rw [SB.mkLe_den, SI.mkAdd_den, SI.mkLen_den] at hc
      replace hc := of_decide_eq_false hc
      obtain ⟨c', rest', o, hrun, hheap, hcap', hmax'⟩ := row_grow (ty := ty) (cap := (cap.den ν).toNat) hut hinf hzv hsize hby1 hzc hr n1 (by omega) hx (by omega) (by omega)
      obtain ⟨ν', hag, hv⟩ : ∃ ν', Agree nm (nm + 1) ν ν' ρ (upd ρ nm w.heap.size) ∧ ν'.i nm = (c' : Int) := ⟨ν.updI nm (c' : Int), agree_updI nm w.heap.size (c' : Int), by simp [Env.updI]⟩
      have e1 : upd ρ nm w.heap.size nm = w.heap.size := by simp [upd]
      have e2 : nl.den ν' = nl.den ν := SL.den_agree hag nl q3
      have e3 : l.den ν' = l.den ν := SL.den_agree hag l hlav
      have e4 : off.den ν' = off.den ν := SI.den_agree hag off q4
      have e5 : len.den ν' = len.den ν := SI.den_agree hag len q5
      refine ⟨ν', upd ρ nm w.heap.size, hag, w.drew.alloc o, ?_, ?_⟩
      · simp only [SV.den, appWGrow, SI.mkAdd_den, SI.mkLen_den, SI.den, e1, e2, e5, hv]
        rw [hrun]
        congr 2
        omega
      · have he : HW B ν ρ (herase b hp) w.drew := HW.sub h.drew
        refine he.new (n := nm) (o := o) hag (hav_erase q6) ?_
        simp only [BlkDen, SL.mkApp_den, SL.mkTake_den, SL.mkDrop_den, SI.den, e2, e3, e4, e5, hv]
        refine ⟨⟨rest', ?_, ?_, hmax'⟩, fun j => ?_⟩
        · rw [show w.drew.heap.size = w.heap.size from rfl, e1]; exact hheap
        · rw [hcap']; simp only [List.length_append, List.length_take, List.length_drop]; omega
        · rw [show w.drew.heap.size = w.heap.size from rfl, e1]
    have hdp : pcDen ν (x.1 ++ pc) := pcDen_append h1 hd
    cases hk2 : (SB.mkLe (SI.mkAdd len (SI.mkLen nl)) cap).known (x.1 ++ pc) with
    | some bb =>
      have hden := SB.known_den hdp hk2
      cases bb with
      | true => exact ⟨_, List.mem_flatMap.2 ⟨x, hxm, by simp only [hb, if_true, hk2]; exact List.mem_singleton.2 rfl⟩, ν, ρ, Agree.refl _ _ _ _, h1, fun y hy => by cases hy; exact hin hden⟩
      | false =>
        obtain ⟨ν', ρ', g1, w', g2, g3⟩ := hgr hden
        exact ⟨_, List.mem_flatMap.2 ⟨x, hxm, by simp only [hb, if_true, hk2]; exact List.mem_singleton.2 rfl⟩, ν', ρ', g1, h1, fun y hy => by cases hy; exact ⟨w', g2, g3⟩⟩
    | none =>
      cases hbb : (SB.mkLe (SI.mkAdd len (SI.mkLen nl)) cap).den ν with
      | true => exact ⟨_, List.mem_flatMap.2 ⟨x, hxm, by simp only [hb, if_true, hk2]; exact List.mem_cons_self ..⟩, ν, ρ, Agree.refl _ _ _ _, pcDen_asm hbb h1, fun y hy => by cases hy; exact hin hbb⟩
      | false =>
        obtain ⟨ν', ρ', g1, w', g2, g3⟩ := hgr hbb
        exact ⟨_, List.mem_flatMap.2 ⟨x, hxm, by simp only [hb, if_true, hk2]; exact List.mem_cons_of_mem _ (List.mem_cons_self ..)⟩, ν', ρ', g1, pcDen_asm hbb h1, fun y hy => by cases hy; exact ⟨w', g2, g3⟩⟩

theorem opAppendW_ok {O : Orac} {I : In G} (oo : OOK P O I) : OOK P (O.withOp (opAppendW P)) I := by
  refine withOp_ok oo ?_
  intro nm fr pc hp o outs hk B ν ρ a w hI hf hpc hw
  unfold opAppendW at hk
  split at hk
  case h_2 => cases hk
  rename_i args argTypes hop
  split at hk
  case h_2 => cases hk
  rename_i s x t u hv ht
  split at hk
  case h_2 => cases hk
  rename_i e hu
  split at hk
  case isFalse => cases hk
  rename_i htu
  have htu := Nat.eq_of_beq_eq_true htu
  subst htu
  split at hk
  case h_2 => cases hk
  rename_i k hue
  split at hk
  case h_2 => cases hk
  rename_i nl hls
  split at hk
  · cases hk
  simp only [Option.map_eq_some_iff] at hk
  obtain ⟨l, happ, rfl⟩ := hk
  obtain ⟨r, hr, hd, hrd⟩ := listX_den hw hpc hls
  simp only [List.mem_singleton] at hr
  subst hr
  obtain ⟨q, hq, ν', ρ', hag, hqd, hrun⟩ := appendW_run hw hpc hu hue (hrd nl rfl) happ o.type
  have hargs := evalL_toArray hf hv
  have ht' : argTypes = #[t, t] := by apply Array.ext'; simpa using ht
  simp only [denL] at hargs
  refine ⟨_, List.mem_map.2 ⟨q, hq, rfl⟩, ν', ρ', hag, fun h => (by simp [hop, makes] at h), hqd, ?_⟩
  cases hq2 : q.2 with
  | none => trivial
  | some y =>
    obtain ⟨w', h1, h2⟩ := hrun y hq2
    refine ⟨w', ?_, h2⟩
    simp only [execOp, hop, resolve, Sem.run_bind, Sem.run_pure, Result.andThen_ok, invoke, builtin, hargs, ht', h1]
end
end Go.Sy
end
