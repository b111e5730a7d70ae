/- Loops by cases, whose first round stands alone. -/
import Derived.Test.YtiofchhmdkhfoaaGreatSyXH
import Derived.Test.YtiofchhmdkhfoaaGreatSyXE
import Derived.Test.YtiofchhmdkhfoaaGreatSyXG
set_option linter.unusedVariables false
set_option linter.unusedSimpArgs false

section
namespace Go.Sy
open Go Go.RowKit

section
variable {P : Program} {G : Type} {O : Orac} {I : In G}
/-- A loop whose first round stands alone, and whose head has one of several forms behind it, each with a few cases, each its own walk; 'J', 'm': by the form's number. -/
theorem loopF_ok (pr : PR P) (oo : OOK P O I) {f s n it : Nat} {nm : Nat} (hnm : nm = nmAt s) (hs : Nat.ble s 100000 = true) (h1 : (loopsAt P f s).length = 1) {fr0 : List SV} {hp0 : Heap} {bads : PC} {heads tg : List Tgt} {sums : List (List (PC × List SumT))} {sums0 : List SumT} (d : G)
    (hlen : sums.length = heads.length)
    (hbody : ∀ (i : Nat) (h : Tgt) (ss : List (PC × List SumT)), heads[i]? = some h → sums[i]? = some ss → ∀ c ∈ ss, (codeX P O LO7 SZ7 f n it (loopAt P f s) h.fr (c.1 ++ h.pc) h.hp).bind (fun ls => sumsHd P nm LO7 SZ7 heads tg (ls.map withRows)) = some c.2)
    (hbody0 : (codeX P O LO7 SZ7 f n it (loopAt P f s) fr0 (bads.map fun x => (x.1, !x.2)) hp0).bind (fun ls => sumsHd P nm LO7 SZ7 heads tg (ls.map withRows)) = some sums0)
    (J : Nat → Env G → Vals G → Prop) (m : Nat → Env G → Vals G → Nat) (M : Env G → Nat)
    (first : ∀ t ∈ sums0, ∀ ν ν2, ν.I = I → (∀ y ∈ bads, y.1.den ν ≠ y.2) → RF0 ν ν2 → pcDen ν2 t.pc →
      match t.ex with
      | .normal => ∀ g, heads[t.k]? = some g → J t.k ν (t.mt.vals d ν2) ∧ pcDen (ν.at nm (t.mt.vals d ν2)) g.pc ∧ m t.k ν (t.mt.vals d ν2) < M ν ∧ t.mt.Owed ν2 (ν.at nm (t.mt.vals d ν2))
      | .bad => False
      | _ => (∀ g, tg[t.k]? = some g → pcDen (ν.at nm (t.mt.vals d ν2)) g.pc) ∧ t.mt.Owed ν2 (ν.at nm (t.mt.vals d ν2)))
    (cover : ∀ (i : Nat) (h : Tgt) (ss : List (PC × List SumT)), heads[i]? = some h → sums[i]? = some ss → ∀ ν x, ν.I = I → (∀ y ∈ bads, y.1.den ν ≠ y.2) → J i ν x → pcDen (ν.at nm x) h.pc → ∃ c ∈ ss, pcDen (ν.at nm x) c.1)
    (round : ∀ (i : Nat) (h : Tgt) (ss : List (PC × List SumT)), heads[i]? = some h → sums[i]? = some ss → ∀ c ∈ ss, ∀ t ∈ c.2, ∀ ν x ν2, ν.I = I → (∀ y ∈ bads, y.1.den ν ≠ y.2) → J i ν x → pcDen (ν.at nm x) h.pc → pcDen (ν.at nm x) c.1 → RF nm ν x ν2 → pcDen ν2 t.pc →
      match t.ex with
      | .normal => ∀ g, heads[t.k]? = some g → J t.k ν (t.mt.vals d ν2) ∧ pcDen (ν.at nm (t.mt.vals d ν2)) g.pc ∧ m t.k ν (t.mt.vals d ν2) < m i ν x ∧ t.mt.Owed ν2 (ν.at nm (t.mt.vals d ν2))
      | .bad => False
      | _ => (∀ g, tg[t.k]? = some g → pcDen (ν.at nm (t.mt.vals d ν2)) g.pc) ∧ t.mt.Owed ν2 (ν.at nm (t.mt.vals d ν2))) {O' : Orac} (oo' : OOK P O' I) :
    OOK P (O'.withLoop f s nm fr0 hp0 (mkM nm tg bads)) I := by
  have hsm : ∀ {m : Nat}, m < 1000 → out nm (nm + 64) m = true := fun h => by rw [hnm]; exact out_small h
  have hbg : ∀ {j : Nat}, j < 64 → out LO7 (LO7 + SZ7) (nm + j) = true := fun h => by rw [hnm]; exact out_nm7 hs h
  have hbs : ∀ {m : Nat}, m < 1000 → out LO7 (LO7 + SZ7) m = true := fun h => out_big7 h
  refine withLoop_ok oo' h1 ?_
  intro pc sub hsub hpart B ν ρ Q hQ hI hl act w hpc hf hw
  unfold mkM at hl
  cases hp : pav nm (nm + 64) pc with
  | false => rw [hp] at hl; exact (hl ⟨.bad, [], [], []⟩ (by simp) act w ⟨ν, ρ, Agree.refl _ _ _ _, pcDen_nil _, fun h => h.elim⟩).elim
  | true =>
    rw [hp] at hl
    simp only [if_true] at hl
    have hbad : ∀ x ∈ bads, x.1.den ν ≠ x.2 := prune_denG hpc fun x hx he =>
      (hl ⟨.bad, [], x :: pc, []⟩ (List.mem_append_right _ (List.mem_map.2 ⟨x, hx, rfl⟩)) act w ⟨ν, ρ, Agree.refl _ _ _ _, pcDen_one' he hpc, fun h => h.elim⟩).elim
    have hmono : ∀ {ν3 : Env G} {ρ3 : Nat → Nat}, Agree nm (nm + 64) ν ν3 ρ ρ3 → Agree nm (nm + sub) ν ν3 ρ ρ3 := fun h => h.mono (Nat.ble_eq_true_of_le (Nat.le_refl _)) (Nat.ble_eq_true_of_le (by omega))
    -- one way from what is there to the head's form
    have conv : ∀ {lo' sz' : Nat} {x1 : Vals G} {ν1 ν2 : Env G} {ρ1 ρ2 : Nat → Nat} {mt : Mt} {us ts : List SV} {hu ht : Heap}, Agree nm (nm + 64) ν ν1 ρ ρ1 → Agree lo' (lo' + sz') ν1 ν2 ρ1 ρ2 → mAll nm lo' sz' P us hu ts ht = some mt → mt.Owed ν2 (ν.at nm (mt.vals d ν2)) →
        ∃ ρ3, Agree nm (nm + 64) ν (ν.at nm (mt.vals d ν2)) ρ ρ3 ∧ (∀ act, FR ν2 ρ2 us act → FR (ν.at nm (mt.vals d ν2)) ρ3 ts act) ∧ ∀ w, HW B ν2 ρ2 hu w → HW B (ν.at nm (mt.vals d ν2)) ρ3 ht w := by
      intro lo' sz' x1 ν1 ν2 ρ1 ρ2 mt us ts hu ht a1 a2 hm ho
      have hfine := mAll_fine hm
      let ρ3 : Nat → Nat := fun m => match inH nm m, lkp m mt.b with | true, some n => ρ2 n | _, _ => ρ m
      have hr3 : ∀ n, out nm (nm + 64) n = true → ρ3 n = ρ n := fun n hn => by
        show (match inH nm n, lkp n mt.b with | true, some n => ρ2 n | _, _ => ρ n) = ρ n
        rw [inH_out hn]
      have a3 : Agree nm (nm + 64) ν (ν.at nm (mt.vals d ν2)) ρ ρ3 := at_agree hr3
      have hsat : mt.Sat nm ν2 (ν.at nm (mt.vals d ν2)) ρ2 ρ3 := mt_sat hfine (fun j hj => at_i hj) (fun j hj => at_l hj) (fun j hj => at_g hj) ho
      have kr : KeepR nm lo' sz' ρ2 ρ3 := fun n h1 h2 => by rw [hr3 n h1, a2.r n h2, a1.r n h1]
      obtain ⟨k1, k2⟩ := mAll_den (okAll_of a1 a2 a3) kr hm hsat
      exact ⟨ρ3, a3, k1, fun w => k2 B w⟩
    cases hb0 : codeX P O LO7 SZ7 f n it (loopAt P f s) fr0 (bads.map fun x => (x.1, !x.2)) hp0 with
    | none => rw [hb0] at hbody0; cases hbody0
    | some ls0 =>
    rw [hb0] at hbody0
    simp only [Option.bind_some] at hbody0
    have hpcE : pcDen ν (bads.map fun x => (x.1, !x.2)) := by
      intro c b hm
      obtain ⟨x, hx, e⟩ := List.mem_map.1 hm
      cases e
      have := hbad x hx
      revert this
      cases x.1.den ν <;> cases x.2 <;> simp
    refine wp_loop_ghost (fun k act w => (∃ i h x ρ1, heads[i]? = some h ∧ Agree nm (nm + 64) ν (ν.at nm x) ρ ρ1 ∧ J i ν x ∧ pcDen (ν.at nm x) h.pc ∧ m i ν x = k ∧ FR (ν.at nm x) ρ1 h.fr act ∧ HW B (ν.at nm x) ρ1 h.hp w) ∨ (k = M ν ∧ FR ν ρ fr0 act ∧ HW B ν ρ hp0 w)) (M ν) (.inr ⟨rfl, hf, hw⟩) ?_
    rintro k act w (⟨i, h, x, ρ1, hi, k1, k2, k3, k4, k5, k6⟩ | ⟨k4, k5, k6⟩)
    case inr =>
      refine x_code pr oo hb0 hpart B ν ρ (Exit.then _ Q) hI (fun ch a w hq => hQ ch a w hq) ?_ act w ⟨ν, ρ, Agree.refl _ _ _ _, hpcE, fun _ => ⟨k5, k6⟩⟩
      intro L0 hL0 act' w' hs0
      obtain ⟨ν2, ρ2, e1, e2, e3⟩ := withRows_sat hs0
      rw [← withRows_ex L0]
      have hL : withRows L0 ∈ ls0.map withRows := List.mem_map.2 ⟨L0, hL0, rfl⟩
      generalize withRows L0 = L at hL e1 e2 e3
      obtain ⟨t, ht, hsum⟩ := sumsHd_mem hbody0 L hL
      have rf : RF0 ν ν2 := ⟨e1.I, fun j hj => e1.i _ (hbs hj), fun j hj => e1.l _ (hbs hj), fun j hj => e1.g _ (hbs hj), fun j hj => e1.b _ (hbs hj)⟩
      have hr := first t ht ν ν2 hI hbad rf
      have k1 : Agree nm (nm + 64) ν ν ρ ρ := Agree.refl _ _ _ _
      unfold sumHd at hsum
      cases hex : L.ex with
      | normal =>
        rw [hex] at hsum e3
        simp only [Option.map_eq_some_iff] at hsum
        obtain ⟨⟨k', mt⟩, hfind, rfl⟩ := hsum
        obtain ⟨-, t', ht', m2, hm⟩ := findT_some hfind
        rw [Nat.sub_zero] at ht'
        obtain ⟨q1, q2, q3, q4⟩ := hr e2 t' ht'
        obtain ⟨hf2, hw2⟩ := e3 trivial
        obtain ⟨ρ3, b1, b2, b3⟩ := conv (x1 := ⟨fun _ => 0, fun _ => [], fun _ => d⟩) k1 e1 hm q4
        exact ⟨_, by rw [k4]; exact q3, .inl ⟨k', t', _, ρ3, ht', b1, q1, q2, rfl, b2 _ hf2, b3 _ hw2⟩⟩
      | exit i' =>
        rw [hex] at hsum e3
        simp only [Option.map_eq_some_iff] at hsum
        obtain ⟨⟨k', mt⟩, hfind, rfl⟩ := hsum
        obtain ⟨-, t', ht', m2, hm⟩ := findT_some hfind
        rw [Nat.sub_zero] at ht'
        have m1 := List.mem_of_getElem? ht'
        rw [hex] at m2
        obtain ⟨q2, q3⟩ := hr e2
        obtain ⟨hf2, hw2⟩ := e3 trivial
        obtain ⟨ρ3, b1, b2, b3⟩ := conv (x1 := ⟨fun _ => 0, fun _ => [], fun _ => d⟩) k1 e1 hm q3
        have := hl ⟨t'.ex, t'.fr, t'.pc ++ pc, t'.hp⟩ (List.mem_append_left _ (List.mem_map.2 ⟨t', List.mem_filter.2 ⟨m1, by rw [m2]; rfl⟩, rfl⟩)) act' w'
          ⟨_, ρ3, hmono b1, pcDen_append (q2 t' ht') (pcDen_agree b1 hp hpc), fun _ => ⟨b2 _ hf2, b3 _ hw2⟩⟩
        simp only [m2] at this
        exact this
      | ret =>
        rw [hex] at hsum e3
        simp only [Option.map_eq_some_iff] at hsum
        obtain ⟨⟨k', mt⟩, hfind, rfl⟩ := hsum
        obtain ⟨-, t', ht', m2, hm⟩ := findT_some hfind
        rw [Nat.sub_zero] at ht'
        have m1 := List.mem_of_getElem? ht'
        rw [hex] at m2
        obtain ⟨q2, q3⟩ := hr e2
        obtain ⟨hf2, hw2⟩ := e3 trivial
        obtain ⟨ρ3, b1, b2, b3⟩ := conv (x1 := ⟨fun _ => 0, fun _ => [], fun _ => d⟩) k1 e1 hm q3
        have := hl ⟨t'.ex, t'.fr, t'.pc ++ pc, t'.hp⟩ (List.mem_append_left _ (List.mem_map.2 ⟨t', List.mem_filter.2 ⟨m1, by rw [m2]; rfl⟩, rfl⟩)) act' w'
          ⟨_, ρ3, hmono b1, pcDen_append (q2 t' ht') (pcDen_agree b1 hp hpc), fun _ => ⟨b2 _ hf2, b3 _ hw2⟩⟩
        simp only [m2] at this
        exact this
      | bad =>
        rw [hex] at hsum
        simp only [Option.some.injEq] at hsum
        subst hsum
        exact (hr e2).elim
    have hlt : i < sums.length := by rw [hlen]; exact (List.getElem?_eq_some_iff.1 hi).1
    obtain ⟨ss, hss⟩ : ∃ ss, sums[i]? = some ss := ⟨_, List.getElem?_eq_getElem hlt⟩
    obtain ⟨cc, hcc, hcp⟩ := cover i h ss hi hss ν x hI hbad k2 k3
    have hbody := hbody i h ss hi hss cc hcc
    cases hb : codeX P O LO7 SZ7 f n it (loopAt P f s) h.fr (cc.1 ++ h.pc) h.hp with
    | none => rw [hb] at hbody; cases hbody
    | some lsB =>
    rw [hb] at hbody
    simp only [Option.bind_some] at hbody
    refine x_code pr oo hb hpart B (ν.at nm x) ρ1 (Exit.then _ Q) (k1.I.trans hI) (fun ch a w hq => hQ ch a w hq) ?_ act w ⟨ν.at nm x, ρ1, Agree.refl _ _ _ _, pcDen_append hcp k3, fun _ => ⟨k5, k6⟩⟩
    intro L0 hL0 act' w' hs0
    obtain ⟨ν2, ρ2, e1, e2, e3⟩ := withRows_sat hs0
    rw [← withRows_ex L0]
    have hL : withRows L0 ∈ lsB.map withRows := List.mem_map.2 ⟨L0, hL0, rfl⟩
    generalize withRows L0 = L at hL e1 e2 e3
    obtain ⟨t, ht, hsum⟩ := sumsHd_mem hbody L hL
    have rf : RF nm ν x ν2 :=
      ⟨e1.I.trans k1.I, fun j hj => (e1.i _ (hbg hj)).trans (at_i hj), fun j hj => (e1.l _ (hbg hj)).trans (at_l hj), fun j hj => (e1.g _ (hbg hj)).trans (at_g hj),
        fun j hj => (e1.i _ (hbs hj)).trans (at_io (hsm hj)), fun j hj => (e1.l _ (hbs hj)).trans (at_lo (hsm hj)), fun j hj => (e1.g _ (hbs hj)).trans (at_go (hsm hj)), fun j hj => (e1.b _ (hbs hj))⟩
    have hr := round i h ss hi hss cc hcc t ht ν x ν2 hI hbad k2 k3 hcp rf
    unfold sumHd at hsum
    cases hex : L.ex with
    | normal =>
      rw [hex] at hsum e3
      simp only [Option.map_eq_some_iff] at hsum
      obtain ⟨⟨k', mt⟩, hfind, rfl⟩ := hsum
      obtain ⟨-, t', ht', m2, hm⟩ := findT_some hfind
      rw [Nat.sub_zero] at ht'
      obtain ⟨q1, q2, q3, q4⟩ := hr e2 t' ht'
      obtain ⟨hf2, hw2⟩ := e3 trivial
      obtain ⟨ρ3, b1, b2, b3⟩ := conv (x1 := x) k1 e1 hm q4
      exact ⟨_, by rw [← k4]; exact q3, .inl ⟨k', t', _, ρ3, ht', b1, q1, q2, rfl, b2 _ hf2, b3 _ hw2⟩⟩
    | exit i' =>
      rw [hex] at hsum e3
      simp only [Option.map_eq_some_iff] at hsum
      obtain ⟨⟨k', mt⟩, hfind, rfl⟩ := hsum
      obtain ⟨-, t', ht', m2, hm⟩ := findT_some hfind
      rw [Nat.sub_zero] at ht'
      have m1 := List.mem_of_getElem? ht'
      rw [hex] at m2
      obtain ⟨q2, q3⟩ := hr e2
      obtain ⟨hf2, hw2⟩ := e3 trivial
      obtain ⟨ρ3, b1, b2, b3⟩ := conv (x1 := x) k1 e1 hm q3
      have := hl ⟨t'.ex, t'.fr, t'.pc ++ pc, t'.hp⟩ (List.mem_append_left _ (List.mem_map.2 ⟨t', List.mem_filter.2 ⟨m1, by rw [m2]; rfl⟩, rfl⟩)) act' w'
        ⟨_, ρ3, hmono b1, pcDen_append (q2 t' ht') (pcDen_agree b1 hp hpc), fun _ => ⟨b2 _ hf2, b3 _ hw2⟩⟩
      simp only [m2] at this
      exact this
    | ret =>
      rw [hex] at hsum e3
      simp only [Option.map_eq_some_iff] at hsum
      obtain ⟨⟨k', mt⟩, hfind, rfl⟩ := hsum
      obtain ⟨-, t', ht', m2, hm⟩ := findT_some hfind
      rw [Nat.sub_zero] at ht'
      have m1 := List.mem_of_getElem? ht'
      rw [hex] at m2
      obtain ⟨q2, q3⟩ := hr e2
      obtain ⟨hf2, hw2⟩ := e3 trivial
      obtain ⟨ρ3, b1, b2, b3⟩ := conv (x1 := x) k1 e1 hm q3
      have := hl ⟨t'.ex, t'.fr, t'.pc ++ pc, t'.hp⟩ (List.mem_append_left _ (List.mem_map.2 ⟨t', List.mem_filter.2 ⟨m1, by rw [m2]; rfl⟩, rfl⟩)) act' w'
        ⟨_, ρ3, hmono b1, pcDen_append (q2 t' ht') (pcDen_agree b1 hp hpc), fun _ => ⟨b2 _ hf2, b3 _ hw2⟩⟩
      simp only [m2] at this
      exact this
    | bad =>
      rw [hex] at hsum
      simp only [Option.some.injEq] at hsum
      subst hsum
      exact (hr e2).elim
end
end Go.Sy
end

section
namespace Go.Sy
open Go Go.RowKit

def opCap (P : Program) (_ : Nat) (fr : List SV) (_ : PC) (hp : Heap) (o : Oper) : Option (List (PC × ORes)) :=
  match o.op with
  | .call { callee := .builtin .cap, args, argTypes } => match evalOL fr args.toList, argTypes[0]? with
    | some [.nilSl], some t | some [.emp _], some t => match P.underlying t with
      | some (.slice _) => some [([], .val (.int .i64 (.lit 0)) hp)]
      | _ => none
    | some [.sl _ _ _ c], some t => match P.underlying t with
      | some (.slice _) => some [([], .val (.int .i64 (SI.mkNat c)) hp)]
      | _ => none
    | _, _ => none
  | _ => none
/-- how many rows there are that were appended to nothing -/
def opLenC (P : Program) (_ : Nat) (fr : List SV) (_ : PC) (hp : Heap) (o : Oper) : Option (List (PC × ORes)) :=
  match o.op with
  | .call { callee := .builtin .len, args, argTypes } => match evalOL fr args.toList, argTypes[0]? with
    | some [.sl b _ n _], some t => match P.underlying t with
      | some (.slice _) => match hget b hp with
        | some bk => match asS bk with
          | some S => match chainS S.g with
            | some xs => if n.beq (rowsS S) then some [([], .val (.int .i64 (.lit (.ofNat (xs.length / S.w)))) hp)] else none
            | none => none
          | none => none
        | none => none
      | _ => none
    | _, _ => none
  | _ => none
/-- rows that were appended to nothing: their length as a number -/
def numV : SV × Heap → SV × Heap
  | (.sl b off n c, hp) => match hget b hp with
    | some bk => match asS bk with
      | some S => if n.beq (rowsS S) then (.sl b off (rowsN S) c, hp) else (.sl b off n c, hp)
      | none => (.sl b off n c, hp)
    | none => (.sl b off n c, hp)
  | y => y
def opAppN (P : Program) (nm : Nat) (fr : List SV) (pc : PC) (hp : Heap) (o : Oper) : Option (List (PC × ORes)) :=
  match o.op with
  | .call { callee := .builtin .append, args, argTypes } => match evalOL fr args.toList, argTypes.toList with
    | some [s, x], [t, u] => if Nat.beq t u then (appendS P nm pc hp t s x).map fun l => outsVH (l.map fun r => (r.1, r.2.map numV)) else none
    | _, _ => none
  | _ => none
section
variable {P : Program}
theorem opLenC_ok {O : Orac} (oo : OOK P O inM) : OOK P (O.withOp (opLenC P)) inM := by
  refine withOp_ok oo ?_
  intro nm fr pc hp o outs hk B ν ρ a w hI hf hpc hw
  unfold opLenC at hk
  split at hk
  case h_2 => cases hk
  rename_i args argTypes hop
  split at hk
  case h_2 => cases hk
  rename_i b off n c t hv ht
  split at hk
  case h_2 => cases hk
  rename_i e hu
  split at hk
  case h_2 => cases hk
  split at hk
  case h_2 => cases hk
  rename_i S _
  split at hk
  case h_2 => cases hk
  rename_i xs hx
  split at hk
  case isFalse => cases hk
  rename_i hb
  have hn := SI.beq_eq hb
  subst hn
  cases hk
  have hargs := evalL_toArray hf hv
  refine ⟨_, List.mem_singleton.2 rfl, ν, ρ, Agree.refl _ _ _ _, fun _ => ⟨rfl, rfl⟩, pcDen_nil _, w, ?_, hw⟩
  simp only [execOp, hop, resolve, Sem.run_bind, Sem.run_pure, Result.andThen_ok, invoke, builtin, hargs, Builtin.len_, ht]
  simp [denL, SV.den, run_underlying hu, goInt, SI.den, rowsS_chain hI hx]
  exact Int.max_eq_left (Int.ediv_nonneg (Int.natCast_nonneg _) (Int.natCast_nonneg _))
theorem numV_den {ν : Env Gh} (hI : ν.I = inM) (ρ : Nat → Nat) (y : SV × Heap) : (numV y).1.den ν ρ = y.1.den ν ρ ∧ (numV y).2 = y.2 := by
  unfold numV
  split
  · split
    · split
      · rename_i S _
        split
        · rename_i hb
          have hn := SI.beq_eq hb
          subst hn
          simp [SV.den, rowsN_den hI]
        · exact ⟨rfl, rfl⟩
      · exact ⟨rfl, rfl⟩
    · exact ⟨rfl, rfl⟩
  · exact ⟨rfl, rfl⟩
theorem opAppN_ok {O : Orac} (oo : OOK P O inM) : OOK P (O.withOp (opAppN P)) inM := by
  refine withOp_ok oo ?_
  intro nm fr pc hp o outs hk B ν ρ a w hI hf hpc hw
  unfold opAppN at hk
  split at hk
  case h_2 => cases hk
  rename_i args argTypes hop
  split at hk
  case h_2 => cases hk
  rename_i s x t u hv ht
  split at hk
  case isFalse => cases hk
  rename_i htu
  have htu := Nat.eq_of_beq_eq_true htu
  subst htu
  simp only [Option.map_eq_some_iff] at hk
  obtain ⟨l, happ, rfl⟩ := hk
  obtain ⟨r, hr, ν', ρ', hag, hd, hrun⟩ := appendS_run hI hw hpc happ o.type
  have hargs := evalL_toArray hf hv
  have ht' : argTypes = #[t, t] := by apply Array.ext'; simpa using ht
  simp only [denL] at hargs
  refine out_VH (by rw [hop]; rfl) (List.mem_map.2 ⟨r, hr, rfl⟩) hag hd (fun y hy => ?_)
  obtain ⟨y0, hy0, rfl⟩ := Option.map_eq_some_iff.1 hy
  obtain ⟨w', h1, h2⟩ := hrun y0 hy0
  obtain ⟨e1, e2⟩ := numV_den (hag.I ▸ hI : ν'.I = inM) ρ' y0
  refine ⟨w', ?_, by rw [e2]; exact h2⟩
  simp only [execOp, hop, resolve, Sem.run_bind, Sem.run_pure, Result.andThen_ok, invoke, builtin, hargs, ht', h1, e1]
end
section
variable {P : Program} {G : Type}
theorem opCap_ok {O : Orac} {I : In G} (oo : OOK P O I) : OOK P (O.withOp (opCap P)) I := by
  refine withOp_ok oo ?_
  intro nm fr pc hp o outs hk B ν ρ a w hI hf hpc hw
  unfold opCap at hk
  split at hk
  case h_2 => cases hk
  rename_i args argTypes hop
  split at hk
  · rename_i t hv ht
    split at hk
    case h_2 => cases hk
    rename_i e hu
    cases hk
    have hargs := evalL_toArray hf hv
    refine ⟨_, List.mem_singleton.2 rfl, ν, ρ, Agree.refl _ _ _ _, fun _ => ⟨rfl, rfl⟩, pcDen_nil _, w, ?_, hw⟩
    simp only [execOp, hop, resolve, Sem.run_bind, Sem.run_pure, Result.andThen_ok, invoke, builtin, hargs, Builtin.cap_, ht]
    simp [denL, SV.den, run_underlying hu, goInt, SI.den]
  · rename_i i t hv ht
    split at hk
    case h_2 => cases hk
    rename_i e hu
    cases hk
    have hargs := evalL_toArray hf hv
    refine ⟨_, List.mem_singleton.2 rfl, ν, ρ, Agree.refl _ _ _ _, fun _ => ⟨rfl, rfl⟩, pcDen_nil _, w, ?_, hw⟩
    simp only [execOp, hop, resolve, Sem.run_bind, Sem.run_pure, Result.andThen_ok, invoke, builtin, hargs, Builtin.cap_, ht]
    simp [denL, SV.den, run_underlying hu, goInt, SI.den]
  · rename_i b off n c t hv ht
    split at hk
    case h_2 => cases hk
    rename_i e hu
    cases hk
    have hargs := evalL_toArray hf hv
    refine ⟨_, List.mem_singleton.2 rfl, ν, ρ, Agree.refl _ _ _ _, fun _ => ⟨rfl, rfl⟩, pcDen_nil _, w, ?_, hw⟩
    simp only [execOp, hop, resolve, Sem.run_bind, Sem.run_pure, Result.andThen_ok, invoke, builtin, hargs, Builtin.cap_, ht]
    simp [denL, SV.den, run_underlying hu, goInt, SI.mkNat_den]
  · cases hk
end
end Go.Sy
end

section
namespace Go.Sy
open Go Go.RowKit Go.ChangeShapes Go.WideShapes Go.ChangeAt Go.Deep

section
variable {H : Type} {enc : TypeId × Value → H} {P : Program} {W : World}
theorem arg_told {t e : TypeId} {f0 f1 : Field} (ht : P.underlying t = some (.slice e)) (he : P.underlying e = some (.struct #[f0, f1])) (ce : P.cellsOf e = 2)
    (o0 : f0.offset = 0) (o1 : f1.offset = 1) (c0 : P.cellsOf f0.type = 1) (c1 : P.cellsOf f1.type = 1)
    (u0 : P.underlying f0.type = some (.int .u64)) (u1 : P.underlying f1.type = some .bool)
    {r : Reach} {b0 : Nat} {v : Value} {d : DataW H} {ps : List MemPlace} (hok : Value.okWide P W r b0 t v) (h : DataW.Trod enc P W 0 (fun _ => true) true t v d ps) :
    v = .slice none 0 0 ∨ (∃ a, v = .slice (some a) 0 0) ∨ ∃ (g o cap : Nat) (qs : List (Int × Int × Int × Int)), v = .slice (some ⟨g, o, none⟩) qs.length cap ∧ g < W.heap.size ∧ qs.length ≤ cap ∧ cap ≤ maxLen ∧
      (∀ i q, qs[i]? = some q → W.cell? ⟨g, o + i * 2, none⟩ = some (.int .u64 q.1) ∧ W.cell? ⟨g, o + (i * 2 + 1), none⟩ = some (.bool (decide (0 < q.2.1)))) ∧ ∀ q ∈ qs, 0 ≤ q.1 ∧ q.1 < 18446744073709551616 := by
  obtain ⟨a0, l0, cp, rfl⟩ := okWide_slice ht hok
  obtain ⟨fuel, hf⟩ := h
  rcases open_slice ht hf with ⟨hcs, _⟩ | ⟨a, len, cap, m, n, D, Pl, hcs, _, hl, hm, hmm, _, hx⟩
  · left; simpa [Value.cells] using hcs
  · right
    simp only [Value.cells, List.cons.injEq, Value.slice.injEq, and_true] at hcs
    obtain ⟨rfl, rfl, rfl⟩ := hcs
    simp only [if_true] at hmm
    subst hmm
    have each : ∀ i, i < m → ∃ q : Int × Int × Int × Int, (W.cell? (a.add (i * 2)) = some (.int .u64 q.1) ∧ W.cell? (a.add (i * 2 + 1)) = some (.bool (decide (0 < q.2.1)))) ∧ 0 ≤ q.1 ∧ q.1 < 18446744073709551616 := by
      intro i hi
      obtain ⟨cs', h1, h2⟩ := hx i hi
      rw [ce] at h1
      obtain ⟨_, hlen, hcell⟩ := World.cells?_some h1
      obtain ⟨xs, k, hk, hxy, _, hxl, hf⟩ := DataW.trod_struct he h2
      match xs, hxl, cs', hlen with
      | [y0, y1], _, [v0, v1], _ =>
        have g0 := hf 0 f0 rfl
        have g1 := hf 1 f1 rfl
        simp [o0, o1, c0, c1] at g0 g1
        obtain ⟨i0, r0, _, w0⟩ := DataW.trod_int u0 g0
        obtain ⟨i1, r1, _⟩ := DataW.trod_bool u1 g1
        have e0 := hcell 0 (by omega)
        have e1 := hcell 1 (by omega)
        rw [add_add] at e0 e1
        simp only [List.cons.injEq, and_true] at r0 r1
        subst r0 r1
        have hw : 0 ≤ i0 ∧ i0 < 18446744073709551616 := by
          simp only [Lit.wf, Bool.and_eq_true, decide_eq_true_eq] at w0
          have m0 : IntKind.u64.min = 0 := by decide
          have m1 : IntKind.u64.max = 18446744073709551615 := by decide
          omega
        refine ⟨(i0, if i1 then 1 else 0, 0, 0), ⟨by simpa using e0, ?_⟩, hw⟩
        have : decide ((0 : Int) < (if i1 then 1 else 0)) = i1 := by cases i1 <;> rfl
        simp only [this]
        simpa using e1
    rcases Nat.eq_zero_or_pos m with h0 | h0
    · left
      have : l0 = 0 := by omega
      subst h0 this
      exact ⟨a, rfl⟩
    · right
      obtain ⟨q0, ⟨z0, _⟩, _⟩ := each 0 h0
      have hsp : a.spot = none := World.cell?_spot (a := a) (by simpa [Addr.add] using z0)
      obtain ⟨g, o, sp⟩ := a
      simp only at hsp
      subst hsp
      obtain ⟨qs, q1, q2⟩ := choose_quads (n := l0) (R := fun i q => (W.cell? ((⟨g, o, none⟩ : Addr).add (i * 2)) = some (.int .u64 q.1) ∧ W.cell? ((⟨g, o, none⟩ : Addr).add (i * 2 + 1)) = some (.bool (decide (0 < q.2.1)))) ∧ 0 ≤ q.1 ∧ q.1 < 18446744073709551616) fun i hi => each i (by omega)
      refine ⟨g, o, m, qs, by rw [q1], World.block_lt_of_cell? W ⟨g, o, none⟩ (by simpa [Addr.add] using z0), by omega, hm, fun i q hq => ?_, fun q hq => ?_⟩
      · simpa only [add_none] using (q2 i q hq).1
      · obtain ⟨i, hi, he⟩ := List.mem_iff_getElem.1 hq
        exact (q2 i q (by rw [List.getElem?_eq_getElem hi, he])).2
end
end Go.Sy
end

section
namespace Go.Sy
open Go Go.RowKit

def zerosL : Nat → SL
  | 0 => .nil
  | n + 1 => .cons (.lit 0) (zerosL n)
theorem zerosL_den {G : Type} (ν : Env G) : ∀ n, (zerosL n).den ν = List.replicate n 0
  | 0 => rfl
  | n + 1 => by simp [zerosL, SL.den, SI.den, zerosL_den ν n, List.replicate_succ]
def appendNZ (P : Program) (nm : Nat) (hp : Heap) (t n : Nat) : Option (SV × Heap) :=
  match P.underlying t with
  | some (.slice e) =>
    match P.underlying e, sizeT P e, P.info? e, zeroT P e with
    | some (.int k), some 1, some inf, some z =>
      if Nat.ble inf.bytes 64 && Nat.ble 1 inf.bytes && z.beq (.int k (.lit 0)) && Nat.ble 1 n && Nat.ble n 64 && hav nm (nm + 1) hp then
        some (.sl nm (.lit 0) (.lit (.ofNat n)) (.var nm), hadd nm (.row k (zerosL n) (.var nm) e) hp)
      else none
    | _, _, _, _ => none
  | _ => none
def opNilZ (P : Program) (nm : Nat) (fr : List SV) (_ : PC) (hp : Heap) (o : Oper) : Option (List (PC × ORes)) :=
  match o.op with
  | .call { callee := .builtin .append, args, argTypes } => match evalOL fr args.toList, argTypes.toList with
    | some [.nilSl, .int _ (.lit (.ofNat n))], [t, u] => match P.underlying u with
      | some (.int _) => (appendNZ P nm hp t n).map fun y => [([], .val y.1 y.2)]
      | _ => none
    | _, _ => none
  | _ => none
/-- append, where a row's own room is known -/
def opAppendR (P : Program) (nm : Nat) (fr : List SV) (pc : PC) (hp : Heap) (o : Oper) : Option (List (PC × ORes)) := match opAppendW P nm fr (rowsF hp ++ pc) hp o with
  | some _ => ((noOrac.withOp (opAppendW P)).pruned P).op nm fr (rowsF hp ++ pc) hp o
  | none => none
/-- x[lo:hi], where a row's own room is known -/
def opSliceV (P : Program) (nm : Nat) (fr : List SV) (pc : PC) (hp : Heap) (o : Oper) : Option (List (PC × ORes)) := match o.op with
  | .slice _ _ _ _ _ => match opSliceT P nm fr (rowsF hp ++ pc) hp o with
    | some _ => ((noOrac.withOp (opSliceT P)).pruned P).op nm fr (rowsF hp ++ pc) hp o
    | none => none
  | _ => none

section
variable {P : Program} {G : Type}
theorem opSliceV_ok (pr : PR P) {O : Orac} {I : In G} (oo : OOK P O I) : OOK P (O.withOp (opSliceV P)) I := by
  refine withOp_ok oo ?_
  intro nm fr pc hp o outs hk B ν ρ a w hI hf hpc hw
  unfold opSliceV at hk
  split at hk
  case h_2 => cases hk
  rename_i hop
  split at hk
  case h_2 => cases hk
  exact (pruned_ok pr (opSliceT_ok (I := I) noOrac_ok)).op hk B ν ρ a w hI (by rw [hop]; rfl) hf (pcDen_append (rowsF_den hw) hpc) hw
theorem opAppendR_ok (pr : PR P) {O : Orac} {I : In G} (oo : OOK P O I) : OOK P (O.withOp (opAppendR P)) I := by
  refine withOp_ok oo ?_
  intro nm fr pc hp o outs hk B ν ρ a w hI hf hpc hw
  unfold opAppendR at hk
  split at hk
  case h_2 => cases hk
  rename_i hx
  have hpu : pureOp o.op = false := by
    unfold opAppendW at hx
    split at hx
    · rename_i hop; rw [hop]; rfl
    · cases hx
  exact (pruned_ok pr (opAppendW_ok (I := I) noOrac_ok)).op hk B ν ρ a w hI hpu hf (pcDen_append (rowsF_den hw) hpc) hw
section
variable {ν : Env G} {ρ : Nat → Nat} {B : Base} {hp : Heap} {w : World}
theorem appendNZ_run (h : HW B ν ρ hp w) {nm t u n : Nat} {kn kq : IntKind} (hun : P.underlying u = some (.int kn)) {y : SV × Heap} (ha : appendNZ P nm hp t n = some y) (ty : TypeId) :
    ∃ ν' ρ' w', Agree nm (nm + 1) ν ν' ρ ρ' ∧ (Builtin.append_ #[t, u] ty #[.slice none 0 0, .int kq (n : Int)]).run P w = .ok (y.1.den ν' ρ') w' ∧ HW B ν' ρ' y.2 w' := by
  unfold appendNZ at ha
  split at ha
  case h_2 => cases ha
  rename_i e hut
  split at ha
  case h_2 => cases ha
  rename_i k inf z hue hsz hinf hz
  have hsize : inf.size = 1 := by unfold sizeT at hsz; rw [hinf] at hsz; simpa using hsz
  split at ha
  case isFalse => cases ha
  rename_i hby
  simp only [Bool.and_eq_true] at hby
  obtain ⟨⟨⟨⟨⟨q1, q2⟩, q3⟩, q4⟩, q5⟩, q6⟩ := hby
  have q1 := Nat.le_of_ble_eq_true q1
  have q3 := SV.beq_eq q3
  have q4 := Nat.le_of_ble_eq_true q4
  have q5 := Nat.le_of_ble_eq_true q5
  subst q3
  obtain ⟨i', zv, hi', hzv, hzd⟩ := zeroT_info (ν := ν) (ρ := ρ) hz
  have hii : inf = i' := Option.some.inj (hinf.symm.trans hi')
  subst hii
  have hz1 : zv.cells = #[Value.int k 0] := by rw [hzd]; simp [SV.den, SI.den, Value.cells]
  have hzc : ∀ m, Builtin.zeroCells zv.cells m = ((List.replicate m (0 : Int)).map (Value.int k)).toArray := by
    intro m
    rw [hz1]
    apply Array.ext'
    simp only [Builtin.zeroCells, List.map_replicate]
    refine List.ext_getElem (by simp) fun i h1 h2 => ?_
    simp [Nat.mod_one]
  cases ha
  have hge := grownCap_ge w (0 + n) 0 e
  have hold : (Builtin.firstCells inf.size 0 (.slice none 0 0)).run P w.drew = .ok (([] : List Value).toArray) w.drew := by
    simp [Builtin.firstCells]
  have hrun := Go.Lib.run_append_grow_zeros (P := P) w t u ty e inf zv kq kn hut hun hinf hzv none 0 0 [] hold n (by omega) (by omega) (by omega) (by omega) (by
      have : n * inf.bytes ≤ 64 * 64 := Nat.mul_le_mul q5 q1
      omega)
    (growslice_fits (by omega) (by
        have : (0 + n) * inf.bytes ≤ 64 * 64 := Nat.mul_le_mul (by omega) q1
        omega))
  have hmax := grownCap_le_maxLen w (0 + n) 0 e (by simp only [maxLen]; omega)
  simp only [maxLen] at hmax
  generalize grownCap w (0 + n) 0 e = gc at hge hrun hmax
  obtain ⟨ν', hag, hv⟩ : ∃ ν', Agree nm (nm + 1) ν ν' ρ (upd ρ nm w.heap.size) ∧ ν' = ν.updI nm (gc : Int) := ⟨_, agree_updI nm w.heap.size (gc : Int), rfl⟩
  have hv' : ν'.i nm = (gc : Int) := by rw [hv]; simp [Env.updI]
  have e1 : upd ρ nm w.heap.size nm = w.heap.size := by simp [upd]
  have hblk : ∀ (ww : World), ww.heap[w.heap.size]? = (w.drew.alloc (.cells (([] : List Value).toArray ++ Builtin.zeroCells zv.cells n ++ Builtin.zeroCells zv.cells (gc - (0 + n))) e)).heap[w.heap.size]? → BlkDen B ν' (upd ρ nm w.heap.size) ww (fun j => j = w.heap.size) nm (.row k (zerosL n) (.var nm) e) := by
    intro ww hww
    simp only [BlkDen, SI.den, zerosL_den, e1]
    refine ⟨⟨(Builtin.zeroCells zv.cells (gc - (0 + n))).toList, ?_, ?_, by rw [hv']; omega⟩, fun _ => trivial⟩
    · rw [hww, show w.heap.size = w.drew.heap.size from rfl, heap_alloc_new w.drew]
      congr 2
      apply Array.ext'
      simp [hzc]
    · simp [hv', hzc]; omega
  refine ⟨ν', upd ρ nm w.heap.size, _, hag, ?_, h.drew.new (n := nm) hag q6 (hblk _ rfl)⟩
  rw [hrun]
  simp [SV.den, SI.den, e1, hv']
theorem opNilZ_ok {O : Orac} {I : In G} (oo : OOK P O I) : OOK P (O.withOp (opNilZ P)) I := by
  refine withOp_ok oo ?_
  intro nm fr pc hp o outs hk B ν ρ a w hI hf hpc hw
  unfold opNilZ at hk
  split at hk
  case h_2 => cases hk
  rename_i args argTypes hop
  split at hk
  case h_2 => cases hk
  rename_i kq n t u hv ht
  split at hk
  case h_2 => cases hk
  rename_i kn hun
  simp only [Option.map_eq_some_iff] at hk
  obtain ⟨y, happ, rfl⟩ := hk
  obtain ⟨ν', ρ', w', hag, hrun, hw'⟩ := appendNZ_run (kq := kq) hw hun happ o.type
  have hargs := evalL_toArray hf hv
  have ht' : argTypes = #[t, u] := by apply Array.ext'; simpa using ht
  simp only [denL, SV.den, SI.den] at hargs
  refine ⟨([], .val y.1 y.2), by simp, ν', ρ', hag, fun h => (by rw [hop] at h; simp [makes] at h), pcDen_nil ν, w', ?_, hw'⟩
  have hrun2 : (Builtin.append_ #[t, u] o.type #[.slice none 0 0, .int kq (Int.ofNat n)]).run P w = .ok (y.1.den ν' ρ') w' := hrun
  simp only [execOp, hop, resolve, Sem.run_bind, Sem.run_pure, Result.andThen_ok, invoke, builtin, hargs, ht', hrun2]
end
end
end Go.Sy
end

section
namespace Go.Sy
open Go Go.RowKit

def opStoreB (P : Program) (nm : Nat) (fr : List SV) (pc : PC) (hp : Heap) (o : Oper) : Option (List (PC × ORes)) :=
  match o.op with
  | .store _ _ (.tmp n) => match fr[n]? with
    | some (.bool (.lit _)) => none
    | some (.bool e) => match e.known pc with
      | some b => opX P nm (fr.set n (.bool (.lit b))) pc hp o
      | none => none
    | _ => none
  | _ => none
section
variable {P : Program} {G : Type}
theorem opStoreB_ok (pr : PR P) {O : Orac} {I : In G} (oo : OOK P O I) : OOK P (O.withOp (opStoreB P)) I := by
  refine withOp_ok oo ?_
  intro nm fr pc hp o outs hk B ν ρ a w hI hf hpc hw
  unfold opStoreB at hk
  split at hk
  case h_2 => cases hk
  rename_i n hop
  split at hk
  · cases hk
  · rename_i e _ he
    split at hk
    case h_2 => cases hk
    rename_i b hb
    refine opX_sound pr hk ⟨by rw [List.length_set]; exact hf.size, fun t v ht hd => ?_, hf.defers⟩ hpc hw
    rw [List.getElem?_set] at ht
    split at ht
    · rename_i htn
      subst htn
      split at ht
      · cases ht
        have h1 := hf.tmps _ _ he rfl
        rw [h1]
        simp only [SV.den, SB.den]
        rw [SB.known_den hpc hb]
      · cases ht
    · exact hf.tmps t v ht hd
  · cases hk
end
end Go.Sy
end

section
namespace Go.Sy
open Go Go.RowKit

def concT (P : Program) (t : Nat) : Bool := match P.underlying t with
  | some (.interface _) => false
  | some _ => true
  | none => false
def opIface (P : Program) (_ : Nat) (fr : List SV) (_ : PC) (hp : Heap) (o : Oper) : Option (List (PC × ORes)) :=
  match o.op with
  | .makeInterface t x => match evalO fr x with
    | some v => if concT P t then some [([], .val (.ifc t v) hp)] else none
    | none => none
  | _ => none
/-- a method of a struct's own, whose receiver is the value -/
def findM (P : Program) (t : Nat) (name : String) : Option Nat := match P.info? t with
  | some i => match i.methods.find? (·.name == name) with
    | some m => match m.path.toList, m.func with
      | [], some (f, false) => some f
      | _, _ => none
    | none => none
  | none => none
def opInvoke (P : Program) (_ : Nat) (fr : List SV) (_ : PC) (hp : Heap) (o : Oper) : Option (List (PC × ORes)) :=
  match o.op with
  | .call { callee := .invoke recv name, args, .. } => match evalO fr recv, evalOL fr args.toList with
    | some (.ifc t v), some as => match findM P t name, P.underlying t with
      | some f, some (.struct _) => match P.funcs[f]? with
        | some fn => if fn.body.isSome then some [([], .call f (v :: as))] else none
        | none => none
      | _, _ => none
    | _, _ => none
  | _ => none
section
variable {P : Program} {G : Type}
theorem opIface_ok {O : Orac} {I : In G} (oo : OOK P O I) : OOK P (O.withOp (opIface P)) I := by
  refine withOp_ok oo ?_
  intro nm fr pc hp o outs hk B ν ρ a w hI hf hpc hw
  unfold opIface at hk
  split at hk
  · rename_i t x hop
    split at hk
    case h_2 => cases hk
    rename_i v hv
    split at hk
    case isFalse => cases hk
    rename_i hc
    cases hk
    refine ⟨_, List.mem_singleton.2 rfl, ν, ρ, Agree.refl _ _ _ _, fun _ => ⟨rfl, rfl⟩, pcDen_nil _, w, ?_, hw⟩
    unfold concT at hc
    split at hc
    · cases hc
    · rename_i d hne hu
      simp only [execOp, hop, hf.eval hv, Instr.makeInterface, Sem.run_bind, run_underlying hu, Result.andThen_ok]
      cases d <;> first | exact absurd rfl (hne _) | simp [SV.den]
    · cases hc
  · cases hk
theorem method_own {t f : Nat} {name : String} {v : Value} (h : findM P t name = some f) {d : Array Field} (hu : P.underlying t = some (.struct d)) (w : World) (n : Nat) : (Go.method (n + 1) t v name).run P w = .ok (f, v) w := by
  unfold findM at h
  split at h
  case h_2 => cases h
  rename_i i hi
  split at h
  case h_2 => cases h
  rename_i m hm
  split at h
  case h_2 => cases h
  rename_i f' hp hf
  cases h
  unfold Go.method
  simp only [Sem.run_bind, typeInfo, run_program, Result.andThen_ok, hi, hm, hp, follow, hf, Sem.run_pure, receiverAt, run_underlying hu, Place.get]
theorem opInvoke_ok (pr : PR P) {O : Orac} {I : In G} (oo : OOK P O I) : OOK P (O.withOp (opInvoke P)) I := by
  refine withOp_ok oo ?_
  intro nm fr pc hp o outs hk B ν ρ a w hI hf hpc hw
  unfold opInvoke at hk
  split at hk
  case h_2 => cases hk
  rename_i recv name args argTypes hop
  split at hk
  case h_2 => cases hk
  rename_i t v as hr has
  split at hk
  case h_2 => cases hk
  rename_i f d hm hu
  split at hk
  case h_2 => cases hk
  rename_i fn hfn
  split at hk
  case isFalse => cases hk
  rename_i hb
  cases hk
  refine out_same ([], .call f (v :: as)) (by simp) (pcDen_nil ν) ⟨?_, hw⟩
  have hng := pr.ng f fn hfn
  have hb' : fn.body.isNone = false := by cases h : fn.body <;> simp_all
  have hargs := evalL_toArray hf has
  obtain ⟨n, hn⟩ : ∃ n, P.types.size + Made.depth = n + 1 := ⟨P.types.size + Made.depth - 1, by have h : 1 ≤ Made.depth := (by decide); omega⟩
  have hmeth := method_own (v := v.den ν ρ) hm hu w n
  have e0 : ((#[Value.iface t (v.den ν ρ)] ++ (denL ν ρ as).toArray)[0]? : Option Value) = some (.iface t (v.den ν ρ)) := by simp
  have e1 : (#[Value.iface t (v.den ν ρ)] ++ (denL ν ρ as).toArray).extract 1 (#[Value.iface t (v.den ν ρ)] ++ (denL ν ρ as).toArray).size = (denL ν ρ as).toArray := by
    apply Array.ext'
    simp
  simp only [execOp, hop, resolve, hf.eval hr, SV.den, Sem.run_bind, Sem.run_pure, Result.andThen_ok, invoke, hargs, e0, e1, callMethod, run_program, hn, hmeth, callFunc, hfn, hng, hb']
  simp [denL]
end
end Go.Sy
end

section
namespace Go.Sy
open Go Go.RowKit

section
variable {P : Program} {G : Type} {O : Orac} {I : In G}
def tryM (P : Program) (lo : Nat) (args : List SV) (pc : PC) (hp : Heap) : List (Tmpl × List CLeaf) → Option (List CLeaf)
  | [] => none
  | m :: r => match sumK P m.1 m.2 lo args pc hp with
    | some cs => if cs.any (·.bad) then tryM P lo args pc hp r else some cs
    | none => tryM P lo args pc hp r
def memoM (P : Program) (key : List SV → Heap → Option Nat) (ms : List (Nat × Tmpl × List CLeaf)) (lo : Nat) (args : List SV) (pc : PC) (hp : Heap) : Option (List CLeaf) :=
  match key args hp with
  | none => none
  | some n => tryM P lo args pc hp (ms.filterMap fun x => if Nat.beq x.1 n then some x.2 else none)
theorem tryM_mem {lo : Nat} {args : List SV} {pc : PC} {hp : Heap} {cs : List CLeaf} : ∀ {l : List (Tmpl × List CLeaf)}, tryM P lo args pc hp l = some cs → ∃ m ∈ l, sumK P m.1 m.2 lo args pc hp = some cs
  | [], h => by cases h
  | m :: r, h => by
    unfold tryM at h
    split at h
    · rename_i cs' hs
      split at h
      · obtain ⟨m', h1, h2⟩ := tryM_mem h
        exact ⟨m', List.mem_cons_of_mem _ h1, h2⟩
      · cases h
        exact ⟨m, List.mem_cons_self .., hs⟩
    · obtain ⟨m', h1, h2⟩ := tryM_mem h
      exact ⟨m', List.mem_cons_of_mem _ h1, h2⟩
theorem memoM_ok (pr : PR P) {O0 : Orac} (oo : OOK P O0 I) {f : Nat} {key : List SV → Heap → Option Nat} {ms : List (Nat × Tmpl × List CLeaf)}
    (h : ∀ x ∈ ms, runX P O0 f x.2.1.args x.2.1.pc x.2.1.hp = some x.2.2) {O' : Orac} (oo' : OOK P O' I) : OOK P (O'.withCallF f (memoM P key ms)) I := by
  refine withCallF_ok oo' (withCall_ok oo' ?_)
  intro lo args pc hp cs hk
  unfold memoM at hk
  split at hk
  · cases hk
  · rename_i n hn
    obtain ⟨m, hm, hs⟩ := tryM_mem hk
    simp only [List.mem_filterMap] at hm
    obtain ⟨x, hx, hxm⟩ := hm
    split at hxm
    case isFalse => cases hxm
    cases hxm
    have := (sum_ok pr oo (h _ hx) oo').call (f := f) (lo := lo) (args := args) (pc := pc) (hp := hp) (cs := cs)
    refine this ?_
    show (if Nat.beq f f = true then some (sumK P x.2.1 x.2.2 lo args pc hp) else _) = _
    rw [if_pos (Nat.beq_refl f), hs]
end
end Go.Sy
end
