/- Texts of one library, in one file. -/
import Derived.Test.YtiofchhmdkhfoaaGreatSyXF
import Derived.Test.YtiofchhmdkhfoaaGreatSyXE
set_option linter.unusedVariables false
set_option linter.unusedSimpArgs false

section
namespace Go.Sy
open Go Go.RowKit

/-! ### operations known by proof -/
def Orac.withOp (O : Orac) (k : Nat → List SV → PC → Heap → Oper → Option (List (PC × ORes))) : Orac :=
  { O with op := fun nm fr pc hp o => match k nm fr pc hp o with | some r => some r | none => O.op nm fr pc hp o }

section
variable {P : Program} {G : Type} {O : Orac} {I : In G}
theorem withOp_ok (oo : OOK P O I) {k : Nat → List SV → PC → Heap → Oper → Option (List (PC × ORes))}
    (h : ∀ {nm : Nat} {fr : List SV} {pc : PC} {hp : Heap} {o : Oper} {outs : List (PC × ORes)}, k nm fr pc hp o = some outs → ∀ (B : Base) (ν : Env G) (ρ : Nat → Nat) (a : Act) (w : World), ν.I = I → FR ν ρ fr a → pcDen ν pc → HW B ν ρ hp w → OutsOK P B o a w hp nm ν ρ outs) : OOK P (O.withOp k) I where
  call := oo.call
  loop := oo.loop
  tail := oo.tail
  order := oo.order
  op := by
    intro nm fr pc hp o outs ho B ν ρ a w hI hpu hf hpc hw
    unfold Orac.withOp at ho
    simp only at ho
    split at ho
    · rename_i r hr
      cases ho
      exact h hr B ν ρ a w hI hf hpc hw
    · exact oo.op ho B ν ρ a w hI hpu hf hpc hw
end

/-! x[lo:hi] where the bounds are symbolic; elements of one cell -/
def boundX (d : SI) : Option SV → Option SI
  | none => some d
  | some (.int _ e) => some e
  | _ => none
def isLitS : Option SV → Bool
  | none => true
  | some (.int _ (.lit _)) => true
  | _ => false
def sliceS (P : Program) (pc : PC) (t : Nat) (x : SV) (lo hi : Option SV) : Option (List (PC × Option SV)) :=
  match P.underlying t with
  | some (.slice e) => match sizeT P e, x with
    | some 1, .sl b off len cap => match boundX (.lit 0) lo, boundX (SI.mkNat len) hi with
      | some l, some h => some (ways (need pc [SB.mkLe (.lit 0) off, SB.mkLe (.lit 0) l, SB.mkLe l h, SB.mkLe h cap, SB.mkLt l cap]) (.sl b (SI.mkAdd off l) (SI.mkSub h l) (SI.mkSub cap l)))
      | _, _ => none
    | _, _ => none
  | _ => none
def opSlice (P : Program) (_ : Nat) (fr : List SV) (pc : PC) (hp : Heap) (o : Oper) : Option (List (PC × ORes)) :=
  match o.op with
  | .slice t x lo hi none => match evalO fr x, optL fr lo, optL fr hi with
    | some v, some l, some h => (sliceS P pc t v l h).map (outsV hp)
    | _, _, _ => none
  | _ => none

section
variable {P : Program} {G : Type} {ν : Env G} {ρ : Nat → Nat}
theorem boundX_den {d e : SI} {x : Option SV} (h : boundX d x = some e) : (x = none ∧ e = d) ∨ ∃ j, (x.map (·.den ν ρ)) = some (.int j (e.den ν)) := by
  unfold boundX at h
  split at h
  · cases h; exact .inl ⟨rfl, rfl⟩
  · rename_i j n; cases h; exact .inr ⟨j, by simp [SV.den]⟩
  · cases h

theorem sliceS_run {pc : PC} (hd : pcDen ν pc) {t : Nat} {x : SV} {lo hi : Option SV} {l : List (PC × Option SV)} (hl : sliceS P pc t x lo hi = some l) (w : World) :
    ∃ r ∈ l, pcDen ν r.1 ∧ ∀ v, r.2 = some v → (Instr.sliceAt t (x.den ν ρ) (lo.map (·.den ν ρ)) (hi.map (·.den ν ρ)) none).run P w = .ok (v.den ν ρ) w := by
  unfold sliceS at hl
  split at hl
  case h_2 => cases hl
  rename_i e hu
  split at hl
  case h_2 => cases hl
  rename_i b off len cap hn
  split at hl
  case h_2 => cases hl
  rename_i lx hx hlx hhx
  cases hl
  obtain ⟨r, hr, hp, hv⟩ := ways_den (cs := [SB.mkLe (.lit 0) off, SB.mkLe (.lit 0) lx, SB.mkLe lx hx, SB.mkLe hx cap, SB.mkLt lx cap]) (SV.sl b (SI.mkAdd off lx) (SI.mkSub hx lx) (SI.mkSub cap lx)) hd
  refine ⟨r, hr, hp, fun v hv' => ?_⟩
  obtain ⟨rfl, hc⟩ := hv v hv'
  simp only [List.mem_cons, List.not_mem_nil, or_false, forall_eq_or_imp, forall_eq, SB.mkLe_den, SB.mkLt_den, decide_eq_true_eq] at hc
  simp only [SI.den] at hc
  obtain ⟨c0, c1, c2, c3, c4⟩ := hc
  have g1 := boundX_den (ν := ν) (ρ := ρ) hlx
  have g2 := boundX_den (ν := ν) (ρ := ρ) hhx
  have key : (Instr.sliceBounds true (len.den ν).toNat (cap.den ν).toNat (lo.map (·.den ν ρ)) (hi.map (·.den ν ρ)) none).run P w = .ok ((lx.den ν).toNat, (hx.den ν).toNat, (cap.den ν).toNat) w := by
    refine run_bounds (P := P) _ _ (cap.den ν).toNat (hx.den ν).toNat (lx.den ν).toNat _ _ _ (.inl ⟨rfl, rfl⟩) ?_ ?_ (Nat.le_refl _) (by omega) (by omega) w
    · rcases g2 with ⟨h1, h2⟩ | ⟨j, h⟩
      · refine .inl ⟨by simp [h1], rfl, ?_⟩
        rw [h2, SI.mkNat_den]; omega
      · exact .inr ⟨j, by rw [h, Int.toNat_of_nonneg (by omega)]⟩
    · rcases g1 with ⟨h1, h2⟩ | ⟨j, h⟩
      · exact .inl ⟨by simp [h1], by rw [h2]; rfl⟩
      · exact .inr ⟨j, by rw [h, Int.toNat_of_nonneg (by omega)]⟩
  have hml : ¬ (cap.den ν).toNat = (lx.den ν).toNat := by omega
  have e1 : (off.den ν + lx.den ν).toNat = (off.den ν).toNat + (lx.den ν).toNat := by omega
  have e2 : (hx.den ν - lx.den ν).toNat = (hx.den ν).toNat - (lx.den ν).toNat := by omega
  have e3 : (cap.den ν - lx.den ν).toNat = (cap.den ν).toNat - (lx.den ν).toNat := by omega
  simp only [Instr.sliceAt, Instr.slice, SV.den, Sem.run_bind, run_underlying hu, Result.andThen_ok, key, sizeT_run hn, Sem.run_pure, SI.mkAdd_den, SI.mkSub_den, e1, e2, e3]
  simp [hml, add_none]

theorem opSlice_ok {O : Orac} {I : In G} (oo : OOK P O I) : OOK P (O.withOp (opSlice P)) I := by
  refine withOp_ok oo ?_
  intro nm fr pc hp o outs hk B ν ρ a w hI hf hpc hw
  unfold opSlice at hk
  split at hk
  case h_2 => cases hk
  rename_i t x lo hi hop
  split at hk
  case h_2 => cases hk
  rename_i v l h hv hl hh
  simp only [Option.map_eq_some_iff] at hk
  obtain ⟨ls, hls, rfl⟩ := hk
  obtain ⟨r, hr, hp', hrun⟩ := sliceS_run (ν := ν) (ρ := ρ) hpc hls w
  refine out_V hw hr hp' fun u hu => ?_
  have := hrun u hu
  simp only [execOp, hop, hf.eval hv, optL_den hf hl, optL_den hf hh, Option.map_none]
  simp [this]
end
end Go.Sy
end

section
namespace Go.Sy
open Go Go.RowKit

/-! ### loops whose heads have several forms -/
/-- A leaf against the heads, or the ways out. -/
def sumHd (P : Program) (nm lo sz : Nat) (heads tg : List Tgt) (L : Leaf) : Option SumT := match L.ex with
  | .bad => some ⟨.bad, 0, .none, L.pc⟩
  | .normal => (findT P nm lo sz L 0 heads).map fun x => ⟨.normal, x.1, x.2, L.pc⟩
  | ex => (findT P nm lo sz L 0 tg).map fun x => ⟨ex, x.1, x.2, L.pc⟩
def sumsHd (P : Program) (nm lo sz : Nat) (heads tg : List Tgt) : List Leaf → Option (List SumT)
  | [] => some []
  | L :: r => match sumHd P nm lo sz heads tg L, sumsHd P nm lo sz heads tg r with
    | some s, some l => some (s :: l)
    | _, _ => none
theorem sumsHd_mem {P : Program} {nm lo sz : Nat} {heads tg : List Tgt} : ∀ {ls : List Leaf} {l : List SumT}, sumsHd P nm lo sz heads tg ls = some l → ∀ L ∈ ls, ∃ s ∈ l, sumHd P nm lo sz heads tg L = some s
  | [], _, _, L, hL => by cases hL
  | M :: r, l, h, L, hL => by
    unfold sumsHd at h
    split at h
    · rename_i s l' hs hl
      cases h
      rcases List.mem_cons.1 hL with rfl | hL
      · exact ⟨s, by simp, hs⟩
      · obtain ⟨s', hs', he⟩ := sumsHd_mem hl L hL
        exact ⟨s', by simp [hs'], he⟩
    · cases h

section
variable {P : Program} {G : Type} {O : Orac} {I : In G}
/-- A loop whose head has one of several forms; 'J', 'm': by the form's number. -/
theorem loopH_ok (pr : PR P) (oo : OOK P O I) {f s n it : Nat} {nm : Nat} (hnm : nm = nmAt s) (hs : Nat.ble s 100000 = true) (h1 : (loopsAt P f s).length = 1) {fr0 : List SV} {hp0 : Heap} {bads : PC} {heads tg : List Tgt} {sums : List (List SumT)} {start : Mt} {h0 : Tgt} (d : G)
    (hlen : sums.length = heads.length)
    (hbody : ∀ (i : Nat) (h : Tgt) (ss : List SumT), heads[i]? = some h → sums[i]? = some ss → (codeX P O LO7 SZ7 f n it (loopAt P f s) h.fr h.pc h.hp).bind (sumsHd P nm LO7 SZ7 heads tg) = some ss)
    (hh0 : heads[0]? = some h0) (hst : mAll nm 0 0 P fr0 hp0 h0.fr h0.hp = some start)
    (J : Nat → Env G → Vals G → Prop) (m : Nat → Env G → Vals G → Nat)
    (hstart : ∀ ν, ν.I = I → (∀ x ∈ bads, x.1.den ν ≠ x.2) → J 0 ν (start.vals d ν) ∧ pcDen (ν.at nm (start.vals d ν)) h0.pc ∧ start.Owed ν (ν.at nm (start.vals d ν)))
    (round : ∀ (i : Nat) (h : Tgt) (ss : List SumT), heads[i]? = some h → sums[i]? = some ss → ∀ t ∈ ss, ∀ ν x ν2, ν.I = I → (∀ y ∈ bads, y.1.den ν ≠ y.2) → J i ν x → pcDen (ν.at nm x) h.pc → RF nm ν x ν2 → pcDen ν2 t.pc →
      match t.ex with
      | .normal => ∀ g, heads[t.k]? = some g → J t.k ν (t.mt.vals d ν2) ∧ pcDen (ν.at nm (t.mt.vals d ν2)) g.pc ∧ m t.k ν (t.mt.vals d ν2) < m i ν x ∧ t.mt.Owed ν2 (ν.at nm (t.mt.vals d ν2))
      | .bad => False
      | _ => (∀ g, tg[t.k]? = some g → pcDen (ν.at nm (t.mt.vals d ν2)) g.pc) ∧ t.mt.Owed ν2 (ν.at nm (t.mt.vals d ν2))) {O' : Orac} (oo' : OOK P O' I) :
    OOK P (O'.withLoop f s nm fr0 hp0 (mkM nm tg bads)) I := by
  have hsm : ∀ {m : Nat}, m < 1000 → out nm (nm + 64) m = true := fun h => by rw [hnm]; exact out_small h
  have hbg : ∀ {j : Nat}, j < 64 → out LO7 (LO7 + SZ7) (nm + j) = true := fun h => by rw [hnm]; exact out_nm7 hs h
  have hbs : ∀ {m : Nat}, m < 1000 → out LO7 (LO7 + SZ7) m = true := fun h => out_big7 h
  refine withLoop_ok oo' h1 ?_
  intro pc sub hsub hpart B ν ρ Q hQ hI hl act w hpc hf hw
  unfold mkM at hl
  cases hp : pav nm (nm + 64) pc with
  | false => rw [hp] at hl; exact (hl ⟨.bad, [], [], []⟩ (by simp) act w ⟨ν, ρ, Agree.refl _ _ _ _, pcDen_nil _, fun h => h.elim⟩).elim
  | true =>
    rw [hp] at hl
    simp only [if_true] at hl
    have hbad : ∀ x ∈ bads, x.1.den ν ≠ x.2 := prune_denG hpc fun x hx he =>
      (hl ⟨.bad, [], x :: pc, []⟩ (List.mem_append_right _ (List.mem_map.2 ⟨x, hx, rfl⟩)) act w ⟨ν, ρ, Agree.refl _ _ _ _, pcDen_one' he hpc, fun h => h.elim⟩).elim
    have hmono : ∀ {ν3 : Env G} {ρ3 : Nat → Nat}, Agree nm (nm + 64) ν ν3 ρ ρ3 → Agree nm (nm + sub) ν ν3 ρ ρ3 := fun h => h.mono (Nat.ble_eq_true_of_le (Nat.le_refl _)) (Nat.ble_eq_true_of_le (by omega))
    -- one way from what is there to the head's form
    have conv : ∀ {lo' sz' : Nat} {x1 : Vals G} {ν1 ν2 : Env G} {ρ1 ρ2 : Nat → Nat} {mt : Mt} {us ts : List SV} {hu ht : Heap}, Agree nm (nm + 64) ν ν1 ρ ρ1 → Agree lo' (lo' + sz') ν1 ν2 ρ1 ρ2 → mAll nm lo' sz' P us hu ts ht = some mt → mt.Owed ν2 (ν.at nm (mt.vals d ν2)) →
        ∃ ρ3, Agree nm (nm + 64) ν (ν.at nm (mt.vals d ν2)) ρ ρ3 ∧ (∀ act, FR ν2 ρ2 us act → FR (ν.at nm (mt.vals d ν2)) ρ3 ts act) ∧ ∀ w, HW B ν2 ρ2 hu w → HW B (ν.at nm (mt.vals d ν2)) ρ3 ht w := by
      intro lo' sz' x1 ν1 ν2 ρ1 ρ2 mt us ts hu ht a1 a2 hm ho
      have hfine := mAll_fine hm
      let ρ3 : Nat → Nat := fun m => match inH nm m, lkp m mt.b with | true, some n => ρ2 n | _, _ => ρ m
      have hr3 : ∀ n, out nm (nm + 64) n = true → ρ3 n = ρ n := fun n hn => by
        show (match inH nm n, lkp n mt.b with | true, some n => ρ2 n | _, _ => ρ n) = ρ n
        rw [inH_out hn]
      have a3 : Agree nm (nm + 64) ν (ν.at nm (mt.vals d ν2)) ρ ρ3 := at_agree hr3
      have hsat : mt.Sat nm ν2 (ν.at nm (mt.vals d ν2)) ρ2 ρ3 := mt_sat hfine (fun j hj => at_i hj) (fun j hj => at_l hj) (fun j hj => at_g hj) ho
      have kr : KeepR nm lo' sz' ρ2 ρ3 := fun n h1 h2 => by rw [hr3 n h1, a2.r n h2, a1.r n h1]
      obtain ⟨k1, k2⟩ := mAll_den (okAll_of a1 a2 a3) kr hm hsat
      exact ⟨ρ3, a3, k1, fun w => k2 B w⟩
    obtain ⟨g1, g2, g3⟩ := hstart ν hI hbad
    obtain ⟨ρ0, s1, s2, s3⟩ := conv (x1 := start.vals d ν) (Agree.refl _ _ ν ρ) (Agree.refl 0 (0 + 0) ν ρ) hst g3
    refine wp_loop_ghost (fun k act w => ∃ i h x ρ1, heads[i]? = some h ∧ Agree nm (nm + 64) ν (ν.at nm x) ρ ρ1 ∧ J i ν x ∧ pcDen (ν.at nm x) h.pc ∧ m i ν x = k ∧ FR (ν.at nm x) ρ1 h.fr act ∧ HW B (ν.at nm x) ρ1 h.hp w) (m 0 ν (start.vals d ν)) ⟨0, h0, _, ρ0, hh0, s1, g1, g2, rfl, s2 _ hf, s3 _ hw⟩ ?_
    rintro k act w ⟨i, h, x, ρ1, hi, k1, k2, k3, k4, k5, k6⟩
    have hlt : i < sums.length := by rw [hlen]; exact (List.getElem?_eq_some_iff.1 hi).1
    obtain ⟨ss, hss⟩ : ∃ ss, sums[i]? = some ss := ⟨_, List.getElem?_eq_getElem hlt⟩
    have hbody := hbody i h ss hi hss
    cases hb : codeX P O LO7 SZ7 f n it (loopAt P f s) h.fr h.pc h.hp with
    | none => rw [hb] at hbody; cases hbody
    | some lsB =>
    rw [hb] at hbody
    simp only [Option.bind_some] at hbody
    refine x_code pr oo hb hpart B (ν.at nm x) ρ1 (Exit.then _ Q) (k1.I.trans hI) (fun ch a w hq => hQ ch a w hq) ?_ act w ⟨ν.at nm x, ρ1, Agree.refl _ _ _ _, k3, fun _ => ⟨k5, k6⟩⟩
    rintro L hL act' w' ⟨ν2, ρ2, e1, e2, e3⟩
    obtain ⟨t, ht, hsum⟩ := sumsHd_mem hbody L hL
    have rf : RF nm ν x ν2 :=
      ⟨e1.I.trans k1.I, fun j hj => (e1.i _ (hbg hj)).trans (at_i hj), fun j hj => (e1.l _ (hbg hj)).trans (at_l hj), fun j hj => (e1.g _ (hbg hj)).trans (at_g hj),
        fun j hj => (e1.i _ (hbs hj)).trans (at_io (hsm hj)), fun j hj => (e1.l _ (hbs hj)).trans (at_lo (hsm hj)), fun j hj => (e1.g _ (hbs hj)).trans (at_go (hsm hj)), fun j hj => (e1.b _ (hbs hj))⟩
    have hr := round i h ss hi hss t ht ν x ν2 hI hbad k2 k3 rf
    unfold sumHd at hsum
    cases hex : L.ex with
    | normal =>
      rw [hex] at hsum e3
      simp only [Option.map_eq_some_iff] at hsum
      obtain ⟨⟨k', mt⟩, hfind, rfl⟩ := hsum
      obtain ⟨-, t', ht', m2, hm⟩ := findT_some hfind
      rw [Nat.sub_zero] at ht'
      obtain ⟨q1, q2, q3, q4⟩ := hr e2 t' ht'
      obtain ⟨hf2, hw2⟩ := e3 trivial
      obtain ⟨ρ3, b1, b2, b3⟩ := conv (x1 := x) k1 e1 hm q4
      exact ⟨_, by rw [← k4]; exact q3, k', t', _, ρ3, ht', b1, q1, q2, rfl, b2 _ hf2, b3 _ hw2⟩
    | exit i' =>
      rw [hex] at hsum e3
      simp only [Option.map_eq_some_iff] at hsum
      obtain ⟨⟨k', mt⟩, hfind, rfl⟩ := hsum
      obtain ⟨-, t', ht', m2, hm⟩ := findT_some hfind
      rw [Nat.sub_zero] at ht'
      have m1 := List.mem_of_getElem? ht'
      rw [hex] at m2
      obtain ⟨q2, q3⟩ := hr e2
      obtain ⟨hf2, hw2⟩ := e3 trivial
      obtain ⟨ρ3, b1, b2, b3⟩ := conv (x1 := x) k1 e1 hm q3
      have := hl ⟨t'.ex, t'.fr, t'.pc ++ pc, t'.hp⟩ (List.mem_append_left _ (List.mem_map.2 ⟨t', List.mem_filter.2 ⟨m1, by rw [m2]; rfl⟩, rfl⟩)) act' w'
        ⟨_, ρ3, hmono b1, pcDen_append (q2 t' ht') (pcDen_agree b1 hp hpc), fun _ => ⟨b2 _ hf2, b3 _ hw2⟩⟩
      simp only [m2] at this
      exact this
    | ret =>
      rw [hex] at hsum e3
      simp only [Option.map_eq_some_iff] at hsum
      obtain ⟨⟨k', mt⟩, hfind, rfl⟩ := hsum
      obtain ⟨-, t', ht', m2, hm⟩ := findT_some hfind
      rw [Nat.sub_zero] at ht'
      have m1 := List.mem_of_getElem? ht'
      rw [hex] at m2
      obtain ⟨q2, q3⟩ := hr e2
      obtain ⟨hf2, hw2⟩ := e3 trivial
      obtain ⟨ρ3, b1, b2, b3⟩ := conv (x1 := x) k1 e1 hm q3
      have := hl ⟨t'.ex, t'.fr, t'.pc ++ pc, t'.hp⟩ (List.mem_append_left _ (List.mem_map.2 ⟨t', List.mem_filter.2 ⟨m1, by rw [m2]; rfl⟩, rfl⟩)) act' w'
        ⟨_, ρ3, hmono b1, pcDen_append (q2 t' ht') (pcDen_agree b1 hp hpc), fun _ => ⟨b2 _ hf2, b3 _ hw2⟩⟩
      simp only [m2] at this
      exact this
    | bad =>
      rw [hex] at hsum
      simp only [Option.some.injEq] at hsum
      subst hsum
      exact (hr e2).elim
end

/-! ### a loop that runs on known values alone, round by round -/
def noOwe (m : Mt) : Bool := m.qi.isEmpty && m.ql.isEmpty && m.qb.isEmpty && m.qg.isEmpty
theorem noOwe_owed {G : Type} {m : Mt} (h : noOwe m = true) (ν2 ν3 : Env G) : m.Owed ν2 ν3 := by
  unfold noOwe at h
  simp only [Bool.and_eq_true, List.isEmpty_iff] at h
  obtain ⟨⟨⟨h1, h2⟩, h3⟩, h4⟩ := h
  exact ⟨fun y hy => (by rw [h1] at hy; cases hy), fun y hy => (by rw [h2] at hy; cases hy), fun y hy => (by rw [h3] at hy; cases hy), fun y hy => (by rw [h4] at hy; cases hy)⟩
def litSum (i : Nat) (t : SumT) : Bool := noOwe t.mt && (match t.ex with
  | .normal => Nat.beq t.k (i + 1)
  | .bad => false
  | _ => true)
def litAll (n : Nat) (l : List (List SumT)) : Bool := match l with
  | [] => true
  | ss :: r => ss.all (litSum n) && litAll (n + 1) r
theorem litAll_get : ∀ {l : List (List SumT)} {n i : Nat} {ss : List SumT}, litAll n l = true → l[i]? = some ss → ∀ t ∈ ss, litSum (n + i) t = true
  | [], _, _, _, _, h => by simp at h
  | s0 :: r, n, i, ss, hl, h => by
    simp only [litAll, Bool.and_eq_true] at hl
    cases i with
    | zero =>
      simp only [List.getElem?_cons_zero, Option.some.injEq] at h
      subst h
      intro t ht
      exact List.all_eq_true.1 hl.1 t ht
    | succ i =>
      intro t ht
      have := litAll_get hl.2 (by simpa using h) t ht
      rwa [show n + 1 + i = n + (i + 1) by omega] at this
section
variable {P : Program} {G : Type} {O : Orac} {I : In G}
theorem loopL_ok (pr : PR P) (oo : OOK P O I) {f s n it : Nat} {nm : Nat} (hnm : nm = nmAt s) (hs : Nat.ble s 100000 = true) (h1 : (loopsAt P f s).length = 1) {fr0 : List SV} {hp0 : Heap} {heads tg : List Tgt} {sums : List (List SumT)} {start : Mt} {h0 : Tgt} (d : G)
    (hlen : sums.length = heads.length)
    (hbody : ∀ (i : Nat) (h : Tgt) (ss : List SumT), heads[i]? = some h → sums[i]? = some ss → (codeX P O LO7 SZ7 f n it (loopAt P f s) h.fr h.pc h.hp).bind (sumsHd P nm LO7 SZ7 heads tg) = some ss)
    (hh0 : heads[0]? = some h0) (hst : mAll nm 0 0 P fr0 hp0 h0.fr h0.hp = some start) (hso : noOwe start = true)
    (hpcs : (heads.all fun h => h.pc.isEmpty) = true) (hpct : (tg.all fun h => h.pc.isEmpty) = true) (hlit : litAll 0 sums = true) {O' : Orac} (oo' : OOK P O' I) :
    OOK P (O'.withLoop f s nm fr0 hp0 (mkM nm tg [])) I := by
  have e1 : ∀ {i : Nat} {h : Tgt}, heads[i]? = some h → ∀ ν : Env G, pcDen ν h.pc := fun {i h} hh ν => by
    have := List.all_eq_true.1 hpcs h (List.mem_of_getElem? hh)
    rw [List.isEmpty_iff.1 this]; exact pcDen_nil _
  have e2 : ∀ {i : Nat} {h : Tgt}, tg[i]? = some h → ∀ ν : Env G, pcDen ν h.pc := fun {i h} hh ν => by
    have := List.all_eq_true.1 hpct h (List.mem_of_getElem? hh)
    rw [List.isEmpty_iff.1 this]; exact pcDen_nil _
  refine loopH_ok (bads := []) pr oo hnm hs h1 d hlen hbody hh0 hst (fun _ _ _ => True) (fun i _ _ => heads.length - i) (fun ν _ _ => ⟨trivial, e1 hh0 _, noOwe_owed hso _ _⟩) ?_ oo'
  intro i h ss hi hss t ht ν x ν2 hI _ _ _ _ _
  have hl := litAll_get hlit hss t ht
  rw [Nat.zero_add] at hl
  unfold litSum at hl
  simp only [Bool.and_eq_true] at hl
  have ho := fun ν2 ν3 => noOwe_owed (G := G) hl.1 ν2 ν3
  have hl2 := hl.2
  revert hl2
  cases t.ex with
  | normal =>
    intro hk g hg
    have hk := Nat.eq_of_beq_eq_true hk
    have := (List.getElem?_eq_some_iff.1 hg).1
    exact ⟨trivial, e1 hg _, by rw [hk] at this ⊢; omega, ho _ _⟩
  | bad => intro hk; cases hk
  | ret => intro _; exact ⟨fun g hg => e2 hg _, ho _ _⟩
  | exit j => intro _; exact ⟨fun g hg => e2 hg _, ho _ _⟩
end
/-! ### a state in a head's names -/
def reach1 (hp : Heap) (ns : List Nat) : List Nat := hp.foldl (fun ns x => if inL x.1 ns then x.2.nms ns else ns) ns
def reachN (hp : Heap) : Nat → List Nat → List Nat
  | 0, ns => ns
  | k + 1, ns => reachN hp k (reach1 hp ns)
def canS (nm : Nat) (fm : List Nat) : Sub :=
  ⟨fun n => if p0 n then .var n else .var (nm + ixN n fm), fun n => if p0 n then .var n else .var (nm + ixN n fm), fun n => if p0 n then .var n else .var (nm + ixN n fm), .var, fun n => if p0 n then n else nm + ixN n fm⟩
/-- The state, its blocks under the head's names; what nobody leads to is left out. -/
def canon (nm : Nat) (L : Leaf) : Leaf :=
  let fm := (reachN L.hp L.hp.length (nmsL L.fr [])).reverse
  { L with fr := sbL (canS nm fm) L.fr, hp := putAll (canS nm fm) (L.hp.filter fun x => p0 x.1 || inL x.1 fm) [] }
/-- The states of a loop that runs on known values: head by head; the way out. -/
def chain (P : Program) (O : Orac) (f s nm : Nat) : Nat → Leaf → List Tgt × List Tgt
  | 0, _ => ([], [])
  | k + 1, L => match codeX P O LO7 SZ7 f 6000 0 (loopAt P f s) L.fr [] L.hp with
    | some [M] => match M.ex with
      | .normal => let r := chain P O f s nm k (canon nm { M with pc := [] })
        (⟨.normal, L.fr, L.hp, []⟩ :: r.1, r.2)
      | ex => let c := canon nm M
        ([⟨.normal, L.fr, L.hp, []⟩], [⟨ex, c.fr, c.hp, []⟩])
    | _ => ([], [])
end Go.Sy
end

section
namespace Go.Sy
open Go Go.RowKit

/-- at least so many -/
def lenLow : SL → Nat
  | .cons _ l => lenLow l + 1
  | .app a b => lenLow a + lenLow b
  | _ => 0
def hiOK (l : SL) : SI → Bool
  | .lit n => decide (n ≤ lenLow l)
  | .len m => m.beq l
  | _ => false
/-- what is known of a row's room, where it is cut -/
def roomF (hp : Heap) (v : SV) (lo hi : Option SV) : PC := match v with
  | .sl b _ len cap => match hget b hp, boundX (.lit 0) lo, boundX (SI.mkNat len) hi with
    | some (.row _ l c _), some x, some y => if c.beq cap then
        (if hiOK l y then [asm (SB.mkLe y cap) true] else []) ++ (match x with | .lit n => if decide (n < lenLow l) then [asm (SB.mkLt x cap) true] else [] | _ => [])
      else []
    | _, _, _ => []
  | _ => []
def opSliceR (P : Program) (_ : Nat) (fr : List SV) (pc : PC) (hp : Heap) (o : Oper) : Option (List (PC × ORes)) :=
  match o.op with
  | .slice t x lo hi none => match evalO fr x, optL fr lo, optL fr hi with
    | some v, some l, some h => (sliceS P (roomF hp v l h ++ pc) t v l h).map (outsV hp)
    | _, _, _ => none
  | _ => none

section
variable {P : Program} {G : Type} {ν : Env G} {ρ : Nat → Nat}
theorem lenLow_le : ∀ l : SL, lenLow l ≤ (l.den ν).length
  | .nil => by simp [lenLow]
  | .cons x l => by have := lenLow_le l; simp only [lenLow, SL.den, List.length_cons]; omega
  | .app a b => by have := lenLow_le a; have := lenLow_le b; simp only [lenLow, SL.den, List.length_append]; omega
  | .var _ => by simp [lenLow]
  | .set _ _ _ => by simp [lenLow]
  | .take _ _ => by simp [lenLow]
  | .drop _ _ => by simp [lenLow]
  | .rep _ _ => by simp [lenLow]
  | .gl _ _ _ _ => by simp [lenLow]
theorem hiOK_le {l : SL} {y : SI} (h : hiOK l y = true) : y.den ν ≤ ((l.den ν).length : Int) := by
  unfold hiOK at h
  split at h
  · have := lenLow_le (ν := ν) l
    simp only [decide_eq_true_eq] at h
    simp only [SI.den]; omega
  · rename_i m
    rw [SL.beq_eq h]; simp [SI.den]
  · cases h
theorem roomF_den {B : Base} {hp : Heap} {w : World} (hw : HW B ν ρ hp w) (v : SV) (lo hi : Option SV) : pcDen ν (roomF hp v lo hi) := by
  unfold roomF
  split
  case h_2 => exact pcDen_nil ν
  rename_i b off len cap
  split
  case h_2 => exact pcDen_nil ν
  rename_i k l c ty x y hg hx hy
  split
  case isFalse => exact pcDen_nil ν
  rename_i hc
  have hc := SI.beq_eq hc
  subst hc
  obtain ⟨F, h1, _, _⟩ := hw.foot
  have hb := h1 b _ (hget_mem hg)
  simp only [BlkDen] at hb
  obtain ⟨⟨rest, _, hcap, _⟩, _⟩ := hb
  have hl := lenLow_le (ν := ν) l
  refine pcDen_append ?_ ?_
  · split
    · rename_i ho
      have := hiOK_le (ν := ν) ho
      exact pcDen_asm1 (by rw [SB.mkLe_den]; exact decide_eq_true (by omega))
    · exact pcDen_nil ν
  · split
    · split
      · rename_i hn
        simp only [decide_eq_true_eq] at hn
        exact pcDen_asm1 (by rw [SB.mkLt_den]; exact decide_eq_true (by simp only [SI.den]; omega))
      · exact pcDen_nil ν
    · exact pcDen_nil ν
theorem opSliceR_ok {O : Orac} {I : In G} (oo : OOK P O I) : OOK P (O.withOp (opSliceR P)) I := by
  refine withOp_ok oo ?_
  intro nm fr pc hp o outs hk B ν ρ a w hI hf hpc hw
  unfold opSliceR at hk
  split at hk
  case h_2 => cases hk
  rename_i t x lo hi hop
  split at hk
  case h_2 => cases hk
  rename_i v l h hv hl hh
  simp only [Option.map_eq_some_iff] at hk
  obtain ⟨ls, hls, rfl⟩ := hk
  obtain ⟨r, hr, hp', hrun⟩ := sliceS_run (ν := ν) (ρ := ρ) (pcDen_append (roomF_den hw v l h) hpc) hls w
  refine out_V hw hr hp' fun u hu => ?_
  have := hrun u hu
  simp only [execOp, hop, hf.eval hv, optL_den hf hl, optL_den hf hh, Option.map_none]
  simp [this]
end
end Go.Sy
end

section
namespace Go.Sy
open Go Go.RowKit

def appWRoom (P : Program) (hp : Heap) (nm : Nat) (k : IntKind) (e b : Nat) (l : SL) (c off len cap : SI) (nl : SL) : SV × Heap :=
  (.sl b off (SI.mkAdd len (SI.mkLen nl)) cap, hset b (.row k (SL.mkApp (SL.mkTake l (SI.mkAdd off len)) nl) c e) hp)
def appWGrow (P : Program) (hp : Heap) (nm : Nat) (k : IntKind) (e b : Nat) (l : SL) (off len : SI) (nl : SL) : SV × Heap :=
  (.sl nm (.lit 0) (SI.mkAdd len (SI.mkLen nl)) (.var nm), hadd nm (.row k (SL.mkApp (SL.mkTake (SL.mkDrop l off) len) nl) (.var nm) e) (herase b hp))
def appendW (P : Program) (nm : Nat) (pc : PC) (hp : Heap) (t : Nat) (s : SV) (nl : SL) : Option (List (PC × Option (SV × Heap))) :=
  match P.underlying t with
  | some (.slice e) =>
    match P.underlying e, sizeT P e, P.info? e, zeroT P e with
    | some (.int k), some 1, some inf, some z =>
      if Nat.ble inf.bytes 64 && Nat.ble 1 inf.bytes && Nat.beq z.cellsOf.length 1 then
      match s with
      | .sl b off len cap => match hget b hp with
        | some bk => match asRow P bk with
          | some (j, l, c, ty) =>
            if kBeq j k && Nat.beq ty e && nl.av nm (nm + 1) && off.av nm (nm + 1) && len.av nm (nm + 1) && hav nm (nm + 1) hp then
              some ((need pc [SB.mkLe (.lit 0) off, SB.mkLe (.lit 0) len, SB.mkLe (SI.mkAdd off len) (SI.mkLen l), SB.mkLe (SI.mkAdd off cap) c, SB.mkLe len cap, SB.mkLt (SI.mkAdd len (SI.mkLen nl)) (.lit 1099511627776)]).flatMap fun x =>
                if x.2 then
                  match (SB.mkLe (SI.mkAdd len (SI.mkLen nl)) cap).known (x.1 ++ pc) with
                  | some true => [(x.1, some (appWRoom P hp nm k e b l c off len cap nl))]
                  | some false => [(x.1, some (appWGrow P hp nm k e b l off len nl))]
                  | none => [(asm (SB.mkLe (SI.mkAdd len (SI.mkLen nl)) cap) true :: x.1, some (appWRoom P hp nm k e b l c off len cap nl)), (asm (SB.mkLe (SI.mkAdd len (SI.mkLen nl)) cap) false :: x.1, some (appWGrow P hp nm k e b l off len nl))]
                else [(x.1, none)])
            else none
          | none => none
        | none => none
      | _ => none
      else none
    | _, _, _, _ => none
  | _ => none
/-- Where 'append' cannot be seen as one of a whole row. -/
def opAppendW (P : Program) (nm : Nat) (fr : List SV) (pc : PC) (hp : Heap) (o : Oper) : Option (List (PC × ORes)) :=
  match o.op with
  | .call { callee := .builtin .append, args, argTypes } => match evalOL fr args.toList, argTypes.toList with
    | some [s, x], [t, u] => match P.underlying u with
      | some (.slice e) => if Nat.beq t u then match P.underlying e with
        | some (.int k) => match listX P pc hp k x with
          | some [([], some nl)] => match appendR P nm pc hp t s nl with
            | some _ => none
            | none => (appendW P nm pc hp t s nl).map outsVH
          | _ => none
        | _ => none
        else none
      | _ => none
    | _, _ => none
  | _ => none

section
variable {P : Program} {G : Type} {ν : Env G} {ρ : Nat → Nat} {B : Base} {hp : Heap} {w : World}

theorem row_room {t e ty : Nat} {inf : TypeInfo} (hut : P.underlying t = some (.slice e)) (hi : P.info? e = some inf) (hsize : inf.size = 1)
    {g off len cap : Nat} {k : IntKind} {l m : List Int} {rest : List Value} (hr : w.heap[g]? = some (.cells (l.map (Value.int k) ++ rest).toArray e (0, 0))) (hlen : off + len ≤ l.length) (hcap : off + cap ≤ l.length + rest.length)
    {xv : Value} (hx : Reads w xv (m.map (Value.int k))) (hroom : len + m.length ≤ cap) :
    ∃ rest' w', (Builtin.append_ #[t, t] ty #[.slice (some ⟨g, off, none⟩) len cap, xv]).run P w = .ok (.slice (some ⟨g, off, none⟩) (len + m.length) cap) w' ∧
      w'.heap[g]? = some (.cells ((l.take (off + len) ++ m).map (Value.int k) ++ rest').toArray e (0, 0)) ∧ l.length + rest.length = (l.take (off + len) ++ m).length + rest'.length ∧
      w'.os = w.os ∧ w'.tape = w.tape ∧ w'.output = w.output ∧ w'.heap.size = w.heap.size ∧ ∀ j, j ≠ g → w'.heap[j]? = w.heap[j]? := by
  obtain ⟨xa, n, cx, rfl, hxl, hxr⟩ := hx
  have hn : m.length = n := by simpa using hxl
  subst hn
  by_cases h0 : m = []
  · subst h0
    refine ⟨(l.drop (off + len)).map (Value.int k) ++ rest, w, ?_, ?_, ?_, rfl, rfl, rfl, rfl, fun _ _ => rfl⟩
    · have : len ≤ cap := by simpa using hroom
      simp [Builtin.append_, run_underlying hut, sizeOf, typeInfo, hi, Builtin.lenOf, firstCells_empty, this, storeCells]
    · rw [hr]; congr 2
      rw [List.append_nil, ← List.append_assoc, ← List.map_append, List.take_append_drop]
    · simp; omega
  · rcases hxr with ⟨hnil, _⟩ | ⟨ad, rfl, hcell⟩
    · exact absurd (List.map_eq_nil_iff.1 hnil) h0
    · have hf := run_firstCells_some (P := P) w inf.size m.length ad m.length cx (m.map (Value.int k)) (by simp [hsize]) hcell
      have hst := run_storeCells_at P g (off + len * inf.size) e (m.map (Value.int k)) 0 _ w hr (by simp [hsize]; omega) (fun u hu => by obtain ⟨y, _, rfl⟩ := List.mem_map.1 hu; rfl)
      simp only [Nat.add_zero, hsize, Nat.mul_one, List.length_map] at hst
      refine ⟨((l.map (Value.int k) ++ rest).drop (off + len + m.length)), w.setRow g ((l.take (off + len) ++ m).map (Value.int k) ++ (l.map (Value.int k) ++ rest).drop (off + len + m.length)).toArray, ?_, ?_, ?_, rfl, rfl, rfl, by simp, fun j hj => setRow_other w g j _ hj⟩
      · have e1 : List.take (off + len) (l.map (Value.int k) ++ rest) = (l.take (off + len)).map (Value.int k) := by
          rw [List.take_append_of_le_length (by simpa using hlen), List.map_take]
        rw [e1, ← List.map_append] at hst
        simp only [hsize] at hf
        simp [Builtin.append_, run_underlying hut, sizeOf, typeInfo, hi, hsize, Builtin.lenOf, hroom, hf, Addr.add_lit, hst]
      · rw [setRow_heap w g _ _ e _ hr]
      · simp; omega

theorem row_grow {t e ty : Nat} {inf : TypeInfo} {z : Value} (hut : P.underlying t = some (.slice e)) (hi : P.info? e = some inf) (hz : inf.zero = some z) (hsize : inf.size = 1) (hby : inf.bytes ≤ 64) (hz1 : z.cells.size = 1)
    {g off len cap : Nat} {k : IntKind} {l m : List Int} {rest : List Value} (hr : w.heap[g]? = some (.cells (l.map (Value.int k) ++ rest).toArray e (0, 0))) (hlen : off + len ≤ l.length) (hlc : len ≤ cap)
    {xv : Value} (hx : Reads w xv (m.map (Value.int k))) (hroom : ¬ len + m.length ≤ cap) (hsm : len + m.length < 1099511627776) :
    ∃ c' rest' o, (Builtin.append_ #[t, t] ty #[.slice (some ⟨g, off, none⟩) len cap, xv]).run P w = .ok (.slice (some ⟨w.heap.size, 0, none⟩) (len + m.length) c') (w.drew.alloc o) ∧
      (w.drew.alloc o).heap[w.heap.size]? = some (.cells (((l.drop off).take len ++ m).map (Value.int k) ++ rest').toArray e (0, 0)) ∧ c' = len + m.length + rest'.length ∧ (c' : Int) ≤ 9223372036854775807 := by
  obtain ⟨xa, n, cx, rfl, hxl, hxr⟩ := hx
  have hn : m.length = n := by simpa using hxl
  subst hn
  have h0 : m ≠ [] := by rintro rfl; simp at hroom; omega
  rcases hxr with ⟨hnil, _⟩ | ⟨ad, rfl, hcell⟩
  · exact absurd (List.map_eq_nil_iff.1 hnil) h0
  · have hge := grownCap_ge w (len + m.length) cap e
    have hrun := run_append_grow (P := P) w t ty e inf z hut hi hz ⟨g, off, none⟩ len cap (((l.drop off).take len).map (Value.int k)) (by simp [hsize]; omega) (fun j u hu => by
        rw [add_none, cell_at hr]
        have hj : j < len := by have := (List.getElem?_eq_some_iff.1 hu).1; simp at this; omega
        rw [List.getElem?_append_left (by simp; omega)]
        simp only [List.getElem?_map, List.getElem?_take, List.getElem?_drop, if_pos hj] at hu ⊢
        exact hu) ad m.length cx (m.map (Value.int k)) (by simp [hsize]) hcell (by omega) (by omega)
      (growslice_fits (by omega) (by
        have : (len + m.length) * inf.bytes ≤ 1099511627776 * 64 := Nat.mul_le_mul (by omega) hby
        omega))
    refine ⟨grownCap w (len + m.length) cap e, (Builtin.zeroCells z.cells (grownCap w (len + m.length) cap e - (len + m.length))).toList, _, hrun, ?_, ?_, ?_⟩
    · rw [show w.heap.size = w.drew.heap.size from rfl, heap_alloc_new w.drew]
      congr 2
      apply Array.ext'
      simp
    · simp [size_zeroCells, hz1]; omega
    · have := grownCap_le_maxLen w (len + m.length) cap e (by simp only [maxLen]; omega)
      simp only [maxLen] at this
      omega

theorem appendW_run (h : HW B ν ρ hp w) {nm t : Nat} {pc : PC} (hd : pcDen ν pc) {s : SV} {nl : SL} {k : IntKind} {e : Nat} {xv : Value} (hut : P.underlying t = some (.slice e)) (hue : P.underlying e = some (.int k))
    (hx : Reads w xv ((nl.den ν).map (Value.int k))) {ls : List (PC × Option (SV × Heap))} (ha : appendW P nm pc hp t s nl = some ls) (ty : TypeId) :
    ∃ r ∈ ls, ∃ ν' ρ', Agree nm (nm + 1) ν ν' ρ ρ' ∧ pcDen ν r.1 ∧ ∀ y, r.2 = some y → ∃ w', (Builtin.append_ #[t, t] ty #[s.den ν ρ, xv]).run P w = .ok (y.1.den ν' ρ') w' ∧ HW B ν' ρ' y.2 w' := by
  unfold appendW at ha
  rw [hut] at ha
  simp only [hue] at ha
  split at ha
  case h_2 => cases ha
  rename_i k' inf z hk hsz hinf hz
  cases hk
  have hsize : inf.size = 1 := by unfold sizeT at hsz; rw [hinf] at hsz; simpa using hsz
  split at ha
  case isFalse => cases ha
  rename_i hby
  simp only [Bool.and_eq_true] at hby
  have hby1 := Nat.le_of_ble_eq_true hby.1.1
  have hzl := Nat.eq_of_beq_eq_true hby.2
  obtain ⟨zv, hzv, hzc⟩ := zero_one ν ρ z hz hzl hinf
  split at ha
  case h_2 => cases ha
  rename_i b off len cap
  split at ha
  case h_2 => cases ha
  rename_i bk hg
  split at ha
  case h_2 => cases ha
  rename_i j l c ty' har
  split at ha
  case isFalse => cases ha
  rename_i hc
  simp only [Bool.and_eq_true] at hc
  obtain ⟨⟨⟨⟨⟨q1, q2⟩, q3⟩, q4⟩, q5⟩, q6⟩ := hc
  have q1 := kBeq_eq q1
  have q2 := Nat.eq_of_beq_eq_true q2
  subst q1 q2
  cases ha
  obtain ⟨x, hxm, h1, h2⟩ := need_den (ν := ν) (cs := [SB.mkLe (.lit 0) off, SB.mkLe (.lit 0) len, SB.mkLe (SI.mkAdd off len) (SI.mkLen l), SB.mkLe (SI.mkAdd off cap) c, SB.mkLe len cap, SB.mkLt (SI.mkAdd len (SI.mkLen nl)) (.lit 1099511627776)]) hd
  cases hb : x.2 with
  | false => exact ⟨(x.1, none), List.mem_flatMap.2 ⟨x, hxm, by simp [hb]⟩, ν, ρ, Agree.refl _ _ _ _, h1, fun y hy => by cases hy⟩
  | true =>
    have c1 := h2 hb
    simp only [List.mem_cons, List.not_mem_nil, or_false, forall_eq_or_imp, forall_eq, SB.mkLe_den, SB.mkLt_den, SB.mkEq_den, SI.mkAdd_den, SI.mkLen_den, decide_eq_true_eq, beq_iff_eq] at c1
    simp only [SI.den] at c1
    obtain ⟨c1, c2, c3, c4, c4b, c5⟩ := c1
    obtain ⟨rest, hr, hcap, hmax⟩ := asRow_den h (hget_mem hg) har
    have hlav : l.av nm (nm + 1) = true := asRow_av har (hav_mem q6 b bk (hget_mem hg)).2
    have n1 : (off.den ν).toNat + (len.den ν).toNat ≤ (l.den ν).length := by omega
    have hle : (l.den ν).length ≤ (l.den ν).length + rest.length := by omega
    have n2 : (off.den ν).toNat + (cap.den ν).toNat ≤ (l.den ν).length + rest.length := by omega
    -- the two ways
    have hin : (SB.mkLe (SI.mkAdd len (SI.mkLen nl)) cap).den ν = true → ∃ w', (Builtin.append_ #[t, t] ty #[(SV.sl b off len cap).den ν ρ, xv]).run P w = .ok ((appWRoom P hp nm j ty' b l c off len cap nl).1.den ν ρ) w' ∧ HW B ν ρ (appWRoom P hp nm j ty' b l c off len cap nl).2 w' := by
      intro hc
      rw [SB.mkLe_den, SI.mkAdd_den, SI.mkLen_den] at hc
      replace hc := of_decide_eq_true hc
      obtain ⟨rest', w', hrun, hheap, hcap', ho, ht, hu, hs, hk⟩ := row_room (ty := ty) hut hinf hsize hr n1 n2 hx (by omega)
      refine ⟨w', ?_, ?_⟩
      · simp only [SV.den, appWRoom, SI.mkAdd_den, SI.mkLen_den]
        rw [hrun]
        congr 2
        omega
      · refine h.turn (asRow_nores har) (hget_mem hg) ho ht hu hs hk ?_
        have e1 : (off.den ν + len.den ν).toNat = (off.den ν).toNat + (len.den ν).toNat := by omega
        simp only [BlkDen, SL.mkApp_den, SL.mkTake_den, SI.mkAdd_den, e1]
        exact ⟨⟨rest', hheap, by omega, hmax⟩, fun _ => trivial⟩
    have hgr : (SB.mkLe (SI.mkAdd len (SI.mkLen nl)) cap).den ν = false → ∃ ν' ρ', Agree nm (nm + 1) ν ν' ρ ρ' ∧ ∃ w', (Builtin.append_ #[t, t] ty #[(SV.sl b off len cap).den ν ρ, xv]).run P w = .ok ((appWGrow P hp nm j ty' b l off len nl).1.den ν' ρ') w' ∧ HW B ν' ρ' (appWGrow P hp nm j ty' b l off len nl).2 w' := by
      intro hc
      rw [SB.mkLe_den, SI.mkAdd_den, SI.mkLen_den] at hc
      replace hc := of_decide_eq_false hc
      obtain ⟨c', rest', o, hrun, hheap, hcap', hmax'⟩ := row_grow (ty := ty) (cap := (cap.den ν).toNat) hut hinf hzv hsize hby1 hzc hr n1 (by omega) hx (by omega) (by omega)
      obtain ⟨ν', hag, hv⟩ : ∃ ν', Agree nm (nm + 1) ν ν' ρ (upd ρ nm w.heap.size) ∧ ν'.i nm = (c' : Int) := ⟨ν.updI nm (c' : Int), agree_updI nm w.heap.size (c' : Int), by simp [Env.updI]⟩
      have e1 : upd ρ nm w.heap.size nm = w.heap.size := by simp [upd]
      have e2 : nl.den ν' = nl.den ν := SL.den_agree hag nl q3
      have e3 : l.den ν' = l.den ν := SL.den_agree hag l hlav
      have e4 : off.den ν' = off.den ν := SI.den_agree hag off q4
      have e5 : len.den ν' = len.den ν := SI.den_agree hag len q5
      refine ⟨ν', upd ρ nm w.heap.size, hag, w.drew.alloc o, ?_, ?_⟩
      · simp only [SV.den, appWGrow, SI.mkAdd_den, SI.mkLen_den, SI.den, e1, e2, e5, hv]
        rw [hrun]
        congr 2
        omega
      · have he : HW B ν ρ (herase b hp) w.drew := HW.sub h.drew
        refine he.new (n := nm) (o := o) hag (hav_erase q6) ?_
        simp only [BlkDen, SL.mkApp_den, SL.mkTake_den, SL.mkDrop_den, SI.den, e2, e3, e4, e5, hv]
        refine ⟨⟨rest', ?_, ?_, hmax'⟩, fun j => ?_⟩
        · rw [show w.drew.heap.size = w.heap.size from rfl, e1]; exact hheap
        · rw [hcap']; simp only [List.length_append, List.length_take, List.length_drop]; omega
        · rw [show w.drew.heap.size = w.heap.size from rfl, e1]
    have hdp : pcDen ν (x.1 ++ pc) := pcDen_append h1 hd
    cases hk2 : (SB.mkLe (SI.mkAdd len (SI.mkLen nl)) cap).known (x.1 ++ pc) with
    | some bb =>
      have hden := SB.known_den hdp hk2
      cases bb with
      | true => exact ⟨_, List.mem_flatMap.2 ⟨x, hxm, by simp only [hb, if_true, hk2]; exact List.mem_singleton.2 rfl⟩, ν, ρ, Agree.refl _ _ _ _, h1, fun y hy => by cases hy; exact hin hden⟩
      | false =>
        obtain ⟨ν', ρ', g1, w', g2, g3⟩ := hgr hden
        exact ⟨_, List.mem_flatMap.2 ⟨x, hxm, by simp only [hb, if_true, hk2]; exact List.mem_singleton.2 rfl⟩, ν', ρ', g1, h1, fun y hy => by cases hy; exact ⟨w', g2, g3⟩⟩
    | none =>
      cases hbb : (SB.mkLe (SI.mkAdd len (SI.mkLen nl)) cap).den ν with
      | true => exact ⟨_, List.mem_flatMap.2 ⟨x, hxm, by simp only [hb, if_true, hk2]; exact List.mem_cons_self ..⟩, ν, ρ, Agree.refl _ _ _ _, pcDen_asm hbb h1, fun y hy => by cases hy; exact hin hbb⟩
      | false =>
        obtain ⟨ν', ρ', g1, w', g2, g3⟩ := hgr hbb
        exact ⟨_, List.mem_flatMap.2 ⟨x, hxm, by simp only [hb, if_true, hk2]; exact List.mem_cons_of_mem _ (List.mem_cons_self ..)⟩, ν', ρ', g1, pcDen_asm hbb h1, fun y hy => by cases hy; exact ⟨w', g2, g3⟩⟩

theorem opAppendW_ok {O : Orac} {I : In G} (oo : OOK P O I) : OOK P (O.withOp (opAppendW P)) I := by
  refine withOp_ok oo ?_
  intro nm fr pc hp o outs hk B ν ρ a w hI hf hpc hw
  unfold opAppendW at hk
  split at hk
  case h_2 => cases hk
  rename_i args argTypes hop
  split at hk
  case h_2 => cases hk
  rename_i s x t u hv ht
  split at hk
  case h_2 => cases hk
  rename_i e hu
  split at hk
  case isFalse => cases hk
  rename_i htu
  have htu := Nat.eq_of_beq_eq_true htu
  subst htu
  split at hk
  case h_2 => cases hk
  rename_i k hue
  split at hk
  case h_2 => cases hk
  rename_i nl hls
  split at hk
  · cases hk
  simp only [Option.map_eq_some_iff] at hk
  obtain ⟨l, happ, rfl⟩ := hk
  obtain ⟨r, hr, hd, hrd⟩ := listX_den hw hpc hls
  simp only [List.mem_singleton] at hr
  subst hr
  obtain ⟨q, hq, ν', ρ', hag, hqd, hrun⟩ := appendW_run hw hpc hu hue (hrd nl rfl) happ o.type
  have hargs := evalL_toArray hf hv
  have ht' : argTypes = #[t, t] := by apply Array.ext'; simpa using ht
  simp only [denL] at hargs
  refine ⟨_, List.mem_map.2 ⟨q, hq, rfl⟩, ν', ρ', hag, fun h => (by simp [hop, makes] at h), hqd, ?_⟩
  cases hq2 : q.2 with
  | none => trivial
  | some y =>
    obtain ⟨w', h1, h2⟩ := hrun y hq2
    refine ⟨w', ?_, h2⟩
    simp only [execOp, hop, resolve, Sem.run_bind, Sem.run_pure, Result.andThen_ok, invoke, builtin, hargs, ht', h1]
end
end Go.Sy
end

section
namespace Go.Sy
open Go Go.RowKit

abbrev OI := Option Int
def omax : OI → OI → OI
  | some a, some b => some (if decide (a ≤ b) then b else a)
  | some a, none => some a
  | none, b => b
def omin : OI → OI → OI
  | some a, some b => some (if decide (a ≤ b) then a else b)
  | some a, none => some a
  | none, b => b
def oadd : OI → OI → OI
  | some a, some b => some (a + b)
  | _, _ => none
def osub : OI → OI → OI
  | some a, some b => some (a - b)
  | _, _ => none
/-- bounds that the path says of e itself -/
def pcLo (e : SI) : PC → OI
  | [] => none
  | (.lt a (.lit c), false) :: r => if a.beq e then omax (some c) (pcLo e r) else pcLo e r
  | (.lt (.lit c) a, true) :: r => if a.beq e then omax (some (c + 1)) (pcLo e r) else pcLo e r
  | (.eq a (.lit c), true) :: r => if a.beq e then some c else pcLo e r
  | _ :: r => pcLo e r
def pcHi (e : SI) : PC → OI
  | [] => none
  | (.lt a (.lit c), true) :: r => if a.beq e then omin (some (c - 1)) (pcHi e r) else pcHi e r
  | (.lt (.lit c) a, false) :: r => if a.beq e then omin (some c) (pcHi e r) else pcHi e r
  | (.eq a (.lit c), true) :: r => if a.beq e then some c else pcHi e r
  | _ :: r => pcHi e r
/-- a lower bound that is known not to be met -/
def pcUp (pc : PC) (e : SI) : OI → OI
  | some c => match pcFind (.eq e (.lit c)) pc with
    | some false => some (c + 1)
    | _ => some c
  | none => none
def kLo : IntKind → Int
  | .i8 => -128 | .i16 => -32768 | .i32 => -2147483648 | .i64 => -9223372036854775808 | _ => 0
def kHi : IntKind → Int
  | .i8 => 127 | .i16 => 32767 | .i32 => 2147483647 | .i64 => 9223372036854775807 | .u8 => 255 | .u16 => 65535 | .u32 => 4294967295 | .u64 => 18446744073709551615
def isU : IntKind → Bool
  | .u8 | .u16 | .u32 | .u64 => true
  | _ => false
def osc (n : Nat) : OI → OI
  | none => none
  | some x => some ((n : Int) * x)
def bnd (pc : PC) : SI → OI × OI
  | .lit n => (some n, some n)
  | .add a b => (pcUp pc (.add a b) (omax (pcLo (.add a b) pc) (oadd (bnd pc a).1 (bnd pc b).1)), omin (pcHi (.add a b) pc) (oadd (bnd pc a).2 (bnd pc b).2))
  | .sub a b => (pcUp pc (.sub a b) (omax (pcLo (.sub a b) pc) (osub (bnd pc a).1 (bnd pc b).2)), omin (pcHi (.sub a b) pc) (osub (bnd pc a).2 (bnd pc b).1))
  | .wrap k a => (omax (pcLo (.wrap k a) pc) (some (kLo k)), omin (pcHi (.wrap k a) pc) (some (kHi k)))
  | .len l => (pcUp pc (.len l) (omax (pcLo (.len l) pc) (some 0)), pcHi (.len l) pc)
  | .nat a => (pcUp pc (.nat a) (omax (pcLo (.nat a) pc) (omax (some 0) (bnd pc a).1)), pcHi (.nat a) pc)
  | .tmod a b => match (bnd pc a).1, (bnd pc b).1, (bnd pc b).2 with
    | some (.ofNat _), some (.ofNat (_ + 1)), some m => (pcUp pc (.tmod a b) (omax (pcLo (.tmod a b) pc) (some 0)), omin (pcHi (.tmod a b) pc) (some (m - 1)))
    | _, _, _ => (pcLo (.tmod a b) pc, pcHi (.tmod a b) pc)
  | .bits 0 k a b => match isU k, (bnd pc b).1 with
    | true, some (.ofNat _) => (omax (pcLo (.bits 0 k a b) pc) (some 0), omin (pcHi (.bits 0 k a b) pc) (bnd pc b).2)
    | _, _ => (pcLo (.bits 0 k a b) pc, pcHi (.bits 0 k a b) pc)
  | .var i => (pcUp pc (.var i) (pcLo (.var i) pc), pcHi (.var i) pc)
  | .mul (.lit (.ofNat n)) a => (omax (pcLo (.mul (.lit (.ofNat n)) a) pc) (osc n (bnd pc a).1), omin (pcHi (.mul (.lit (.ofNat n)) a) pc) (osc n (bnd pc a).2))
  | e => (pcLo e pc, pcHi e pc)
def within (k : IntKind) : OI × OI → Bool
  | (some a, some b) => decide (kLo k ≤ a) && decide (b ≤ kHi k)
  | _ => false
/-- What the path says that e is. -/
def eqR (e : SI) : PC → SI
  | [] => e
  | (.eq a b, true) :: r => if a.beq e then b else eqR e r
  | _ :: r => eqR e r
def isLit : SI → Bool
  | .lit _ => true
  | _ => false
/-! sums of terms -/
abbrev Lf := Int × List (SI × Int)
def addT (e : SI) (s : Int) : List (SI × Int) → List (SI × Int)
  | [] => if intBeq s 0 then [] else [(e, s)]
  | (a, c) :: r => if a.beq e then (if intBeq (c + s) 0 then r else (a, c + s) :: r) else (a, c) :: addT e s r
def lin : SI → Int → Lf → Lf
  | .lit n, s, f => (f.1 + s * n, f.2)
  | .add a b, s, f => lin b s (lin a s f)
  | .sub a b, s, f => lin b (-s) (lin a s f)
  | .mul (.lit n) a, s, f => lin a (s * n) f
  | e, s, f => (f.1, addT e s f.2)
def lowT (pc : PC) : List (SI × Int) → OI
  | [] => some 0
  | (a, c) :: r => match (if decide (0 ≤ c) then (bnd pc a).1 else (bnd pc a).2) with
    | some m => match lowT pc r with
      | some n => some (c * m + n)
      | none => none
    | none => none
def geP (pc : PC) (f : Lf) (k : Int) : Bool := match lowT pc f.2 with
  | some m => decide (k ≤ f.1 + m)
  | none => false
/-- with one thing that the path says -/
def anyF (pc : PC) (f : Lf) (k : Int) : PC → Bool
  | [] => false
  | (.lt x y, true) :: r => geP pc (lin x 1 (lin y (-1) (f.1 + 1, f.2))) k || anyF pc f k r
  | (.lt x y, false) :: r => geP pc (lin y 1 (lin x (-1) f)) k || anyF pc f k r
  | (.eq x y, true) :: r => geP pc (lin y 1 (lin x (-1) f)) k || (geP pc (lin x 1 (lin y (-1) f)) k || anyF pc f k r)
  | _ :: r => anyF pc f k r
def nn0 (pc : PC) (e : SI) : Bool := match (bnd pc e).1 with
  | some (.ofNat _) => true
  | _ => false
def pos0 (pc : PC) (e : SI) : Bool := match (bnd pc e).1 with
  | some (.ofNat (_ + 1)) => true
  | _ => false
/-- masks and rests, by what they are at most -/
def relT (pc : PC) : List (SI × Int) → Lf → Lf
  | [], f => f
  | (.bits 0 k a b, .negSucc n) :: r, f => if isU k && nn0 pc b then relT pc r (lin b (.negSucc n) f) else relT pc r (f.1, addT (.bits 0 k a b) (.negSucc n) f.2)
  | (.tmod a b, .negSucc n) :: r, f => if nn0 pc a && pos0 pc b then relT pc r (lin b (.negSucc n) (f.1 - .negSucc n, f.2)) else relT pc r (f.1, addT (.tmod a b) (.negSucc n) f.2)
  | (e, c) :: r, f => relT pc r (f.1, addT e c f.2)
def hasM : List (SI × Int) → Bool
  | [] => false
  | (.bits 0 _ _ _, .negSucc _) :: _ => true
  | (.tmod _ _, .negSucc _) :: _ => true
  | _ :: r => hasM r
def relF (pc : PC) (f : Lf) : Lf := relT pc f.2 (f.1, [])
/-- with two things that the path says, one of them among the last ones -/
def any2 (pc : PC) (f : Lf) (k : Int) : PC → Bool
  | [] => false
  | (.lt x y, true) :: r => anyF pc (lin x 1 (lin y (-1) (f.1 + 1, f.2))) k pc || any2 pc f k r
  | (.lt x y, false) :: r => anyF pc (lin y 1 (lin x (-1) f)) k pc || any2 pc f k r
  | _ :: r => any2 pc f k r
def geQ (pc : PC) (f : Lf) (k : Int) : Bool := geP pc f k || (anyF pc f k pc || (match hasM f.2 with | true => geP pc (relF pc f) k || anyF pc (relF pc f) k pc | false => false))
/-- 0 < f, in short -/
def ltN (a b : SI) (f : Lf) : SB := match f with
  | (c, [(x, .negSucc 0)]) => .lt x (.lit c)
  | (c, [(x, .ofNat 1)]) => .not (.lt x (.lit (1 - c)))
  | _ => .lt a b
def ltQ (pc : PC) (a b : SI) (f g : Lf) : SB := if geQ pc f 1 then .lit true else if geQ pc g 0 then .lit false else ltN a b f
def isV (v : Int) : OI → Bool
  | some m => intBeq m v
  | none => false
def eqV (pc : PC) (x : SI) (v : Int) : SB := match bnd pc x with
  | (lo, hi) => if isV v lo then .lt x (.lit (v + 1)) else if isV v hi then .not (.lt x (.lit v)) else .eq x (.lit v)
/-- f = 0, in short -/
def eqN (pc : PC) (a b : SI) (f : Lf) : SB := match f with
  | (c, [(x, .negSucc 0)]) => eqV pc x c
  | (c, [(x, .ofNat 1)]) => eqV pc x (-c)
  | _ => .eq a b
def eqQ (pc : PC) (a b : SI) (f g : Lf) : SB := if geQ pc f 1 || geQ pc g 1 then .lit false else if geQ pc f 0 && geQ pc g 0 then .lit true else eqN pc a b f
def simpB (pc : PC) : SB → SB
  | .lit b => .lit b
  | .not e => SB.mkNot (simpB pc e)
  | .lt a b => ltQ pc a b (lin b 1 (lin a (-1) (0, []))) (lin a 1 (lin b (-1) (0, [])))
  | .eq a b => eqQ pc a b (lin b 1 (lin a (-1) (0, []))) (lin a 1 (lin b (-1) (0, [])))
  | .same (.lit true) e => simpB pc e
  | .same (.lit false) e => SB.mkNot (simpB pc e)
  | e => e
/-- Is it so? -/
def decB (pc : PC) (e : SB) : Option Bool := match simpB pc e with
  | .lit b => some b
  | e => e.known pc
def nnB (pc : PC) (i : SI) : Bool := match (bnd pc i).1 with
  | some (.ofNat _) => true
  | _ => false
def inR (pc : PC) (i : SI) (l : SL) : Bool := match decB pc (SB.mkLt i (eqR (SI.mkLen l) pc)) with
  | some true => true
  | _ => false
def nthS (pc : PC) : SL → SI → SI
  | .set l i x, j => match decB pc (SB.mkEq i j) with
    | some true => x
    | some false => if nnB pc i then nthS pc l j else SI.mkNth (.set l i x) j
    | none => SI.mkNth (.set l i x) j
  | l, j => SI.mkNth l j
def setS (pc : PC) : SL → SI → SI → SL
  | .set l i x, j, v => match decB pc (SB.mkEq i j) with
    | some true => SL.mkSet l i v
    | some false => if nnB pc i then .set (setS pc l j v) i x else .set (.set l i x) j v
    | none => SL.mkSet (.set l i x) j v
  | l, j, v => SL.mkSet l j v
def simpL (pc : PC) (l : SL) (i : SI) : SI := match l with
  | .set l j x => if nnB pc i && inR pc i (.set l j x) then eqR (nthS pc (.set l j x) i) pc else eqR (.nth (.set l j x) i) pc
  | l => eqR (.nth l i) pc
def wrapQ (pc : PC) (k : IntKind) (a : SI) : SI → SI
  | .wrap j b => if !(isU k) && (geQ pc (lin a 1 (-(kLo k), [])) 0 && geQ pc (lin a (-1) (kHi k, [])) 0) then a else .wrap j b
  | e => e
def simpW (pc : PC) (k : IntKind) : SI → SI
  | .lit n => .lit (k.wrap n)
  | a => if within k (bnd pc a) then a else wrapQ pc k a (eqR (.wrap k a) pc)
def simpN (pc : PC) : SI → SI
  | .lit n => .lit (n.toNat : Int)
  | a => match (bnd pc a).1 with
    | some (.ofNat _) => a
    | _ => eqR (.nat a) pc
def leD (pc : PC) (a b : SI) : Bool := match decB pc (SB.mkLt b a) with
  | some false => true
  | _ => false
/-- how long -/
def lenS (pc : PC) : SL → SI
  | .nil => .lit 0
  | .cons _ l => SI.mkAdd (lenS pc l) (.lit 1)
  | .app a b => SI.mkAdd (lenS pc a) (lenS pc b)
  | .set l _ _ => lenS pc l
  | .take l n => if nnB pc n && leD pc n (lenS pc l) then n else eqR (.len (.take l n)) pc
  | .drop l n => if nnB pc n && leD pc n (lenS pc l) then SI.mkSub (lenS pc l) n else eqR (.len (.drop l n)) pc
  | .rep n x => simpN pc n
  | .var i => eqR (.len (.var i)) pc
  | .gl f g a b => eqR (.len (.gl f g a b)) pc
def simpI (pc : PC) : SI → SI
  | .lit n => .lit n
  | .add a b => eqR (SI.mkAdd (simpI pc a) (simpI pc b)) pc
  | .sub a b => eqR (SI.mkSub (simpI pc a) (simpI pc b)) pc
  | .wrap k a => simpW pc k (simpI pc a)
  | .nat a => simpN pc (simpI pc a)
  | .nth l i => simpL pc l (simpI pc i)
  | .len l => lenS pc l
  | e => eqR e pc
/-- The sides, in short. -/
def SB.mkOr : SB → SB → SB
  | .lit true, _ => .lit true
  | .lit false, b => b
  | _, .lit true => .lit true
  | a, .lit false => a
  | a, b => .or a b
def knB (pc : PC) : SB → SB
  | .lit b => .lit b
  | .not e => match pcFind e pc with
    | some b => .lit (!b)
    | none => .not e
  | e => match pcFind e pc with
    | some b => .lit b
    | none => e
def simpC (pc : PC) : SB → SB
  | .not e => SB.mkNot (simpC pc e)
  | .and a b => knB pc (SB.mkAnd (simpC pc a) (simpC pc b))
  | .or a b => knB pc (SB.mkOr (simpC pc a) (simpC pc b))
  | .lt a b => knB pc (simpB pc (SB.mkLt (simpI pc a) (simpI pc b)))
  | .eq a b => knB pc (simpB pc (SB.mkEq (simpI pc a) (simpI pc b)))
  | .same (.lit true) e => simpC pc e
  | .same (.lit false) e => SB.mkNot (simpC pc e)
  | e => knB pc e
def simpV (pc : PC) : SV → SV
  | .int k e => .int k (simpI pc e)
  | .bool e => .bool (simpC pc e)
  | v => v
/-- also what a slice says -/
def simpVS (pc : PC) : SV → SV
  | .sl b o n c => .sl b (simpI pc o) (simpI pc n) (simpI pc c)
  | v => simpV pc v
section
variable {P : Program} {G : Type} {ν : Env G} {ρ : Nat → Nat} {B : Base} {hp : Heap} {w : World}
def LoOK (ν : Env G) (e : SI) (o : OI) : Prop := ∀ c, o = some c → c ≤ e.den ν
def HiOK (ν : Env G) (e : SI) (o : OI) : Prop := ∀ c, o = some c → e.den ν ≤ c
theorem LoOK.max {e : SI} {a b : OI} (h : LoOK ν e a) (g : LoOK ν e b) : LoOK ν e (omax a b) := by
  intro c hc
  cases a <;> cases b <;> simp only [omax] at hc
  · cases hc
  · exact g _ hc
  · exact h _ hc
  · rename_i x y
    have := h x rfl
    have := g y rfl
    split at hc <;> cases hc <;> assumption
theorem HiOK.min {e : SI} {a b : OI} (h : HiOK ν e a) (g : HiOK ν e b) : HiOK ν e (omin a b) := by
  intro c hc
  cases a <;> cases b <;> simp only [omin] at hc
  · cases hc
  · exact g _ hc
  · exact h _ hc
  · rename_i x y
    have := h x rfl
    have := g y rfl
    split at hc <;> cases hc <;> assumption
theorem pcLo_ok {e : SI} : ∀ {pc : PC}, pcDen ν pc → LoOK ν e (pcLo e pc) := by
  intro pc
  induction pc using pcLo.induct e with
  | case1 => intro _ c hc; simp [pcLo] at hc
  | case2 r a c hb ih =>
    intro hd
    simp only [pcLo, hb, if_true]
    refine LoOK.max (fun x hx => ?_) (ih fun c b h => hd c b (List.mem_cons_of_mem _ h))
    cases hx
    have h0 := hd _ _ (List.mem_cons_self ..)
    simp only [SB.den] at h0
    replace h0 := of_decide_eq_false h0
    simp only [SI.den] at h0
    rw [← SI.beq_eq hb]; omega
  | case3 r a c hb ih =>
    intro hd
    simp only [pcLo, hb, Bool.false_eq_true, if_false]
    exact ih fun c b h => hd c b (List.mem_cons_of_mem _ h)
  | case4 r c a hb ih =>
    intro hd
    simp only [pcLo, hb, if_true]
    refine LoOK.max (fun x hx => ?_) (ih fun c b h => hd c b (List.mem_cons_of_mem _ h))
    cases hx
    have h0 := hd _ _ (List.mem_cons_self ..)
    simp only [SB.den] at h0
    replace h0 := of_decide_eq_true h0
    simp only [SI.den] at h0
    rw [← SI.beq_eq hb]; omega
  | case5 r c a hb ih =>
    intro hd
    simp only [pcLo, hb, Bool.false_eq_true, if_false]
    exact ih fun c b h => hd c b (List.mem_cons_of_mem _ h)
  | case6 r a c hb =>
    intro hd x hx
    simp only [pcLo, hb, if_true] at hx
    cases hx
    have := hd _ _ (List.mem_cons_self ..)
    simp only [SB.den, SI.den, beq_iff_eq] at this
    rw [← SI.beq_eq hb]; omega
  | case7 r a c hb ih =>
    intro hd
    simp only [pcLo, hb, Bool.false_eq_true, if_false]
    exact ih fun c b h => hd c b (List.mem_cons_of_mem _ h)
  | case8 x r h1 h2 h3 ih =>
    intro hd
    rw [pcLo]
    · exact ih fun c b h => hd c b (List.mem_cons_of_mem _ h)
    · exact h1
    · exact h2
    · exact h3
theorem pcHi_ok {e : SI} : ∀ {pc : PC}, pcDen ν pc → HiOK ν e (pcHi e pc) := by
  intro pc
  induction pc using pcHi.induct e with
  | case1 => intro _ c hc; simp [pcHi] at hc
  | case2 r a c hb ih =>
    intro hd
    simp only [pcHi, hb, if_true]
    refine HiOK.min (fun x hx => ?_) (ih fun c b h => hd c b (List.mem_cons_of_mem _ h))
    cases hx
    have h0 := hd _ _ (List.mem_cons_self ..)
    simp only [SB.den] at h0
    replace h0 := of_decide_eq_true h0
    simp only [SI.den] at h0
    rw [← SI.beq_eq hb]; omega
  | case3 r a c hb ih =>
    intro hd
    simp only [pcHi, hb, Bool.false_eq_true, if_false]
    exact ih fun c b h => hd c b (List.mem_cons_of_mem _ h)
  | case4 r c a hb ih =>
    intro hd
    simp only [pcHi, hb, if_true]
    refine HiOK.min (fun x hx => ?_) (ih fun c b h => hd c b (List.mem_cons_of_mem _ h))
    cases hx
    have h0 := hd _ _ (List.mem_cons_self ..)
    simp only [SB.den] at h0
    replace h0 := of_decide_eq_false h0
    simp only [SI.den] at h0
    rw [← SI.beq_eq hb]; omega
  | case5 r c a hb ih =>
    intro hd
    simp only [pcHi, hb, Bool.false_eq_true, if_false]
    exact ih fun c b h => hd c b (List.mem_cons_of_mem _ h)
  | case6 r a c hb =>
    intro hd x hx
    simp only [pcHi, hb, if_true] at hx
    cases hx
    have := hd _ _ (List.mem_cons_self ..)
    simp only [SB.den, SI.den, beq_iff_eq] at this
    rw [← SI.beq_eq hb]; omega
  | case7 r a c hb ih =>
    intro hd
    simp only [pcHi, hb, Bool.false_eq_true, if_false]
    exact ih fun c b h => hd c b (List.mem_cons_of_mem _ h)
  | case8 x r h1 h2 h3 ih =>
    intro hd
    rw [pcHi]
    · exact ih fun c b h => hd c b (List.mem_cons_of_mem _ h)
    · exact h1
    · exact h2
    · exact h3
theorem pcUp_ok {pc : PC} (hd : pcDen ν pc) {e : SI} {o : OI} (h : LoOK ν e o) : LoOK ν e (pcUp pc e o) := by
  intro c hc
  unfold pcUp at hc
  split at hc
  · rename_i x
    have := h x rfl
    split at hc
    · rename_i hf
      cases hc
      have := pcFind_den hd hf
      simp only [SB.den, SI.den, beq_eq_false_iff_ne] at this
      omega
    · cases hc; exact this
  · cases hc
theorem wrap_lo (k : IntKind) (x : Int) : kLo k ≤ k.wrap x ∧ k.wrap x ≤ kHi k := by
  cases k <;> simp only [IntKind.wrap, IntKind.bits, IntKind.signed, kLo, kHi] <;> simp <;> (try split) <;> omega
theorem wrap_id (k : IntKind) (x : Int) (h1 : kLo k ≤ x) (h2 : x ≤ kHi k) : k.wrap x = x := by
  cases k <;> simp only [IntKind.wrap, IntKind.bits, IntKind.signed, kLo, kHi] at * <;> simp <;> (try split) <;> omega
theorem and_le (k : IntKind) (hk : isU k = true) (x y : Int) (hy : 0 ≤ y) : 0 ≤ bitsDen 0 k x y ∧ bitsDen 0 k x y ≤ y := by
  have key : ∀ n : Nat, (((BitVec.ofInt n x &&& BitVec.ofInt n y).toNat : Nat) : Int) ≤ y ∧ (BitVec.ofInt n x &&& BitVec.ofInt n y).toNat < 2 ^ n := by
    intro n
    refine ⟨?_, BitVec.isLt _⟩
    rw [BitVec.toNat_and]
    have h1 : (BitVec.ofInt n x).toNat &&& (BitVec.ofInt n y).toNat ≤ (BitVec.ofInt n y).toNat := Nat.and_le_right
    have h2 : (BitVec.ofInt n y).toNat = (y % ((2 ^ n : Nat) : Int)).toNat := by rw [BitVec.toNat_ofInt]
    have h3 : y % ((2 ^ n : Nat) : Int) ≤ y := by
      rw [← Int.toNat_of_nonneg hy]
      exact_mod_cast Nat.mod_le _ _
    have h4 : 0 ≤ y % ((2 ^ n : Nat) : Int) := Int.emod_nonneg _ (by have : 0 < 2 ^ n := Nat.two_pow_pos n; omega)
    omega
  have := key k.bits
  cases k <;> simp only [isU, Bool.false_eq_true] at hk <;> (
    unfold bitsDen
    simp only
    rw [wrap_id]
    · exact ⟨by omega, this.1⟩
    · simp only [kLo]; omega
    · have h := this.2
      simp only [IntKind.bits, kHi] at h ⊢
      omega)
theorem bnd_ok {pc : PC} (hd : pcDen ν pc) : ∀ (e : SI), LoOK ν e (bnd pc e).1 ∧ HiOK ν e (bnd pc e).2
  | .lit n => ⟨fun c h => by cases h; exact Int.le_refl _, fun c h => by cases h; exact Int.le_refl _⟩
  | .add a b => by
    have ha := bnd_ok hd a
    have hb := bnd_ok hd b
    simp only [bnd]
    refine ⟨pcUp_ok hd (LoOK.max (pcLo_ok hd) fun c hc => ?_), HiOK.min (pcHi_ok hd) fun c hc => ?_⟩
    · cases h1 : (bnd pc a).1 <;> cases h2 : (bnd pc b).1 <;> rw [h1, h2] at hc <;> simp only [oadd] at hc <;> cases hc
      have := ha.1 _ h1; have := hb.1 _ h2; simp only [SI.den]; omega
    · cases h1 : (bnd pc a).2 <;> cases h2 : (bnd pc b).2 <;> rw [h1, h2] at hc <;> simp only [oadd] at hc <;> cases hc
      have := ha.2 _ h1; have := hb.2 _ h2; simp only [SI.den]; omega
  | .sub a b => by
    have ha := bnd_ok hd a
    have hb := bnd_ok hd b
    simp only [bnd]
    refine ⟨pcUp_ok hd (LoOK.max (pcLo_ok hd) fun c hc => ?_), HiOK.min (pcHi_ok hd) fun c hc => ?_⟩
    · cases h1 : (bnd pc a).1 <;> cases h2 : (bnd pc b).2 <;> rw [h1, h2] at hc <;> simp only [osub] at hc <;> cases hc
      have := ha.1 _ h1; have := hb.2 _ h2; simp only [SI.den]; omega
    · cases h1 : (bnd pc a).2 <;> cases h2 : (bnd pc b).1 <;> rw [h1, h2] at hc <;> simp only [osub] at hc <;> cases hc
      have := ha.2 _ h1; have := hb.1 _ h2; simp only [SI.den]; omega
  | .wrap k a => by
    have := wrap_lo k (a.den ν)
    simp only [bnd]
    exact ⟨LoOK.max (pcLo_ok hd) fun c hc => by cases hc; simp only [SI.den]; exact this.1, HiOK.min (pcHi_ok hd) fun c hc => by cases hc; simp only [SI.den]; exact this.2⟩
  | .len l => by
    simp only [bnd]
    exact ⟨pcUp_ok hd (LoOK.max (pcLo_ok hd) fun c hc => by cases hc; simp only [SI.den]; omega), pcHi_ok hd⟩
  | .nat a => by
    have ha := bnd_ok hd a
    simp only [bnd]
    refine ⟨pcUp_ok hd (LoOK.max (pcLo_ok hd) (LoOK.max (fun c hc => by cases hc; simp only [SI.den]; omega) fun c hc => ?_)), pcHi_ok hd⟩
    have := ha.1 _ hc; simp only [SI.den]; omega
  | .tmod a b => by
    have ha := bnd_ok hd a
    have hb := bnd_ok hd b
    unfold bnd
    split
    · rename_i n k m hn hk hm
      have h0 := ha.1 _ hn
      have h1 : 0 ≤ a.den ν := Int.le_trans (Int.natCast_nonneg n) h0
      have h5 := hb.1 _ hk
      have h6 : (Int.ofNat k.succ) = (k : Int) + 1 := rfl
      have h7 := hb.2 _ hm
      have h2 := Int.tmod_nonneg (b := b.den ν) h1
      have h3 := Int.tmod_lt_of_pos (a.den ν) (b := b.den ν) (by omega)
      refine ⟨pcUp_ok hd (LoOK.max (pcLo_ok hd) fun c hc => by cases hc; simp only [SI.den]; exact h2), HiOK.min (pcHi_ok hd) fun c hc => by
        cases hc
        simp only [SI.den]
        omega⟩
    · exact ⟨pcLo_ok hd, pcHi_ok hd⟩
  | .bits o k a b => by
    have hb := bnd_ok hd b
    unfold bnd
    split
    all_goals try (rename_i heq; cases heq)
    all_goals try exact ⟨pcLo_ok hd, pcHi_ok hd⟩
    split
    · rename_i m hk hm
      have h0 := hb.1 _ hm
      have h1 := and_le k hk (a.den ν) (b.den ν) (Int.le_trans (Int.natCast_nonneg m) h0)
      refine ⟨LoOK.max (pcLo_ok hd) fun c hc => by cases hc; simp only [SI.den]; exact h1.1, HiOK.min (pcHi_ok hd) fun c hc => ?_⟩
      have := hb.2 _ hc
      simp only [SI.den]; omega
    · exact ⟨pcLo_ok hd, pcHi_ok hd⟩
  | .var i => by simp only [bnd]; exact ⟨pcUp_ok hd (pcLo_ok hd), pcHi_ok hd⟩
  | .mul e a => by
    have hb := bnd_ok hd a
    unfold bnd
    split
    all_goals try (rename_i heq; cases heq)
    all_goals try exact ⟨pcLo_ok hd, pcHi_ok hd⟩
    rename_i n
    refine ⟨LoOK.max (pcLo_ok hd) fun c hc => ?_, HiOK.min (pcHi_ok hd) fun c hc => ?_⟩
    · unfold osc at hc
      split at hc
      · cases hc
      · rename_i x hx
        cases hc
        have := hb.1 _ hx
        show (n : Int) * x ≤ (Int.ofNat n) * a.den ν
        exact Int.mul_le_mul_of_nonneg_left this (Int.natCast_nonneg n)
    · unfold osc at hc
      split at hc
      · cases hc
      · rename_i x hx
        cases hc
        have := hb.2 _ hx
        show (Int.ofNat n) * a.den ν ≤ (n : Int) * x
        exact Int.mul_le_mul_of_nonneg_left this (Int.natCast_nonneg n)
  | .tdiv _ _ | .fdiv _ _ | .nth _ _ | .gi _ _ _ _ => ⟨pcLo_ok hd, pcHi_ok hd⟩
theorem eqR_den {e : SI} : ∀ {pc : PC}, pcDen ν pc → (eqR e pc).den ν = e.den ν := by
  intro pc
  induction pc using eqR.induct e with
  | case1 => intro _; rfl
  | case2 r a b hb =>
    intro hd
    simp only [eqR, hb, if_true]
    have := hd _ _ (List.mem_cons_self ..)
    simp only [SB.den, beq_iff_eq] at this
    rw [← SI.beq_eq hb, this]
  | case3 r a b hb ih =>
    intro hd
    simp only [eqR, hb, Bool.false_eq_true, if_false]
    exact ih fun c b h => hd c b (List.mem_cons_of_mem _ h)
  | case4 x r h1 ih =>
    intro hd
    rw [eqR]
    · exact ih fun c b h => hd c b (List.mem_cons_of_mem _ h)
    · exact h1
def tDen (ν : Env G) : List (SI × Int) → Int
  | [] => 0
  | (a, c) :: r => c * a.den ν + tDen ν r
def lDen (ν : Env G) (f : Lf) : Int := f.1 + tDen ν f.2
theorem addT_den (e : SI) (s : Int) : ∀ l : List (SI × Int), tDen ν (addT e s l) = tDen ν l + s * e.den ν
  | [] => by
    unfold addT
    split
    · rename_i h; rw [intBeq_eq h]; simp [tDen]
    · simp [tDen]
  | (a, c) :: r => by
    unfold addT
    split
    · rename_i h
      have he := SI.beq_eq h
      subst he
      split
      · rename_i h0
        have h0 := intBeq_eq h0
        have : c * a.den ν + s * a.den ν = 0 := by rw [← Int.add_mul, h0, Int.zero_mul]
        simp only [tDen]; omega
      · simp only [tDen, Int.add_mul]; omega
    · simp only [tDen, addT_den e s r]; omega
theorem lin_den : ∀ (e : SI) (s : Int) (f : Lf), lDen ν (lin e s f) = lDen ν f + s * e.den ν
  | .lit n, s, f => by simp only [lin, lDen, SI.den]; omega
  | .add a b, s, f => by simp only [lin, lin_den b, lin_den a, SI.den, Int.mul_add]; omega
  | .sub a b, s, f => by simp only [lin, lin_den b, lin_den a, SI.den, Int.mul_sub, Int.neg_mul]; omega
  | .mul (.lit n) a, s, f => by simp only [lin, lin_den a, SI.den, Int.mul_assoc]
  | .mul (.var _) _, s, f | .mul (.add _ _) _, s, f | .mul (.sub _ _) _, s, f | .mul (.mul _ _) _, s, f | .mul (.tdiv _ _) _, s, f | .mul (.tmod _ _) _, s, f | .mul (.fdiv _ _) _, s, f | .mul (.wrap _ _) _, s, f | .mul (.nat _) _, s, f | .mul (.bits _ _ _ _) _, s, f | .mul (.len _) _, s, f | .mul (.nth _ _) _, s, f | .mul (.gi _ _ _ _) _, s, f => by
    simp only [lin, lDen, addT_den]; omega
  | .var _, s, f | .tdiv _ _, s, f | .tmod _ _, s, f | .fdiv _ _, s, f | .wrap _ _, s, f | .nat _, s, f | .bits _ _ _ _, s, f | .len _, s, f | .nth _ _, s, f | .gi _ _ _ _, s, f => by
    simp only [lin, lDen, addT_den]; omega
theorem lowT_ok {pc : PC} (hd : pcDen ν pc) : ∀ (l : List (SI × Int)) (m : Int), lowT pc l = some m → m ≤ tDen ν l
  | [], m, h => by simp only [lowT, Option.some.injEq] at h; simp only [tDen]; omega
  | (a, c) :: r, m, h => by
    unfold lowT at h
    have hb := bnd_ok hd a
    split at h
    · rename_i x hx
      split at h
      · rename_i n hn
        cases h
        have ih := lowT_ok hd r n hn
        have : c * x ≤ c * a.den ν := by
          split at hx
          · rename_i h0
            have h0 : 0 ≤ c := of_decide_eq_true h0
            exact Int.mul_le_mul_of_nonneg_left (hb.1 _ hx) h0
          · rename_i h0
            have h0 : ¬ 0 ≤ c := fun h => h0 (decide_eq_true h)
            exact Int.mul_le_mul_of_nonpos_left (by omega) (hb.2 _ hx)
        simp only [tDen]; omega
      · cases h
    · cases h
theorem geP_ok {pc : PC} (hd : pcDen ν pc) {f : Lf} {k : Int} (h : geP pc f k = true) : k ≤ lDen ν f := by
  unfold geP at h
  split at h
  · rename_i m hm
    have := lowT_ok hd _ _ hm
    have h := of_decide_eq_true h
    unfold lDen; omega
  · cases h
theorem anyF_ok {pc : PC} (hd : pcDen ν pc) {f : Lf} {k : Int} : ∀ {q : PC}, pcDen ν q → anyF pc f k q = true → k ≤ lDen ν f := by
  intro q
  induction q using anyF.induct with
  | case1 => intro _ h; simp [anyF] at h
  | case2 x y r ih =>
    intro hq h
    simp only [anyF, Bool.or_eq_true] at h
    rcases h with h | h
    · have h1 := geP_ok hd h
      have h0 := hq _ _ (List.mem_cons_self ..)
      simp only [SB.den] at h0
      have h0 := of_decide_eq_true h0
      rw [lin_den, lin_den] at h1
      simp only [lDen] at h1 ⊢
      omega
    · exact ih (fun c b hm => hq c b (List.mem_cons_of_mem _ hm)) h
  | case3 x y r ih =>
    intro hq h
    simp only [anyF, Bool.or_eq_true] at h
    rcases h with h | h
    · have h1 := geP_ok hd h
      have h0 := hq _ _ (List.mem_cons_self ..)
      simp only [SB.den] at h0
      have h0 := of_decide_eq_false h0
      rw [lin_den, lin_den] at h1
      simp only [lDen] at h1 ⊢
      omega
    · exact ih (fun c b hm => hq c b (List.mem_cons_of_mem _ hm)) h
  | case4 x y r ih =>
    intro hq h
    simp only [anyF, Bool.or_eq_true] at h
    have h0 := hq _ _ (List.mem_cons_self ..)
    simp only [SB.den, beq_iff_eq] at h0
    rcases h with h | h | h
    · have h1 := geP_ok hd h
      rw [lin_den, lin_den] at h1
      simp only [lDen] at h1 ⊢
      omega
    · have h1 := geP_ok hd h
      rw [lin_den, lin_den] at h1
      simp only [lDen] at h1 ⊢
      omega
    · exact ih (fun c b hm => hq c b (List.mem_cons_of_mem _ hm)) h
  | case5 x r h1 h2 h3 ih =>
    intro hq h
    rw [anyF] at h
    · exact ih (fun c b hm => hq c b (List.mem_cons_of_mem _ hm)) h
    · exact h1
    · exact h2
    · exact h3
theorem nn0_ok {pc : PC} (hd : pcDen ν pc) {e : SI} (h : nn0 pc e = true) : 0 ≤ e.den ν := by
  unfold nn0 at h
  split at h
  · rename_i n hn
    have := (bnd_ok hd e).1 _ hn
    have h0 : (0 : Int) ≤ Int.ofNat n := Int.natCast_nonneg n
    omega
  · cases h
theorem pos0_ok {pc : PC} (hd : pcDen ν pc) {e : SI} (h : pos0 pc e = true) : 1 ≤ e.den ν := by
  unfold pos0 at h
  split at h
  · rename_i n hn
    have h1 := (bnd_ok hd e).1 _ hn
    have h0 : (Int.ofNat n.succ) = (n : Int) + 1 := rfl
    omega
  · cases h
theorem relT_ok {pc : PC} (hd : pcDen ν pc) : ∀ (l : List (SI × Int)) (f : Lf), lDen ν (relT pc l f) ≤ lDen ν f + tDen ν l := by
  intro l f
  induction l, f using relT.induct pc with
  | case1 f => simp [relT, tDen]
  | case2 k a b n r f h ih =>
    simp only [Bool.and_eq_true] at h
    simp only [relT, h.1, h.2, Bool.and_self, if_true]
    have h1 := (and_le k h.1 (a.den ν) (b.den ν) (nn0_ok hd h.2)).2
    rw [lin_den] at ih
    have h2 : (Int.negSucc n) * b.den ν ≤ (Int.negSucc n) * (SI.bits 0 k a b).den ν := Int.mul_le_mul_of_nonpos_left (by omega) h1
    simp only [tDen]; omega
  | case3 k a b n r f h ih =>
    rw [relT, if_neg h]
    simp only [lDen, addT_den] at ih ⊢
    simp only [tDen]; omega
  | case4 a b n r f h ih =>
    simp only [Bool.and_eq_true] at h
    simp only [relT, h.1, h.2, Bool.and_self, if_true]
    have ha := nn0_ok hd h.1
    have hb := pos0_ok hd h.2
    have h1 : (a.den ν).tmod (b.den ν) ≤ b.den ν - 1 := by
      rw [Int.tmod_eq_emod_of_nonneg ha]
      have := Int.emod_lt_of_pos (a.den ν) (show 0 < b.den ν by omega)
      omega
    rw [lin_den] at ih
    have h2 : (Int.negSucc n) * (b.den ν - 1) ≤ (Int.negSucc n) * (SI.tmod a b).den ν := Int.mul_le_mul_of_nonpos_left (by omega) h1
    rw [Int.mul_sub, Int.mul_one] at h2
    simp only [lDen] at ih ⊢
    simp only [tDen]; omega
  | case5 a b n r f h ih =>
    rw [relT, if_neg h]
    simp only [lDen, addT_den] at ih ⊢
    simp only [tDen]; omega
  | case6 e c r f h1 h2 ih =>
    rw [relT]
    · simp only [lDen, addT_den] at ih ⊢
      simp only [tDen]; omega
    · exact h1
    · exact h2
theorem any2_ok {pc : PC} (hd : pcDen ν pc) {f : Lf} {k : Int} : ∀ {q : PC}, pcDen ν q → any2 pc f k q = true → k ≤ lDen ν f := by
  intro q
  induction q using any2.induct with
  | case1 => intro _ h; simp [any2] at h
  | case2 x y r ih =>
    intro hq h
    simp only [any2, Bool.or_eq_true] at h
    rcases h with h | h
    · have h1 := anyF_ok hd hd h
      have h0 := hq _ _ (List.mem_cons_self ..)
      simp only [SB.den] at h0
      have h0 := of_decide_eq_true h0
      rw [lin_den, lin_den] at h1
      simp only [lDen] at h1 ⊢
      omega
    · exact ih (fun c b hm => hq c b (List.mem_cons_of_mem _ hm)) h
  | case3 x y r ih =>
    intro hq h
    simp only [any2, Bool.or_eq_true] at h
    rcases h with h | h
    · have h1 := anyF_ok hd hd h
      have h0 := hq _ _ (List.mem_cons_self ..)
      simp only [SB.den] at h0
      have h0 := of_decide_eq_false h0
      rw [lin_den, lin_den] at h1
      simp only [lDen] at h1 ⊢
      omega
    · exact ih (fun c b hm => hq c b (List.mem_cons_of_mem _ hm)) h
  | case4 x r h1 h2 ih =>
    intro hq h
    rw [any2] at h
    · exact ih (fun c b hm => hq c b (List.mem_cons_of_mem _ hm)) h
    · exact h1
    · exact h2
theorem geQ_ok {pc : PC} (hd : pcDen ν pc) {f : Lf} {k : Int} (h : geQ pc f k = true) : k ≤ lDen ν f := by
  unfold geQ at h
  simp only [Bool.or_eq_true] at h
  rcases h with h | h | h
  · exact geP_ok hd h
  · exact anyF_ok hd hd h
  · split at h
    · have h1 : k ≤ lDen ν (relF pc f) := by
        simp only [Bool.or_eq_true] at h
        rcases h with h | h
        · exact geP_ok hd h
        · exact anyF_ok hd hd h
      have h2 := relT_ok hd f.2 (f.1, [])
      unfold relF at h1
      simp only [lDen, tDen] at h1 h2 ⊢
      omega
    · cases h
theorem ltN_den (a b : SI) (f : Lf) (hf : lDen ν f = b.den ν - a.den ν) : (ltN a b f).den ν = decide (a.den ν < b.den ν) := by
  unfold ltN
  split
  · rename_i c x
    simp only [lDen, tDen] at hf
    simp only [SB.den, SI.den]
    have : (Int.negSucc 0 : Int) = -1 := rfl
    rw [this] at hf
    congr 1; apply propext; omega
  · rename_i c x
    simp only [lDen, tDen] at hf
    have : (Int.ofNat 1 : Int) = 1 := rfl
    rw [this] at hf
    by_cases h : x.den ν < (SI.lit (1 - c)).den ν
    · have h' : x.den ν < 1 - c := h
      simp only [SB.den]
      rw [decide_eq_true h]; exact (decide_eq_false (by omega)).symm
    · have h' : ¬ x.den ν < 1 - c := h
      simp only [SB.den]
      rw [decide_eq_false h]; exact (decide_eq_true (by omega)).symm
  · rfl
theorem ltQ_den {pc : PC} (hd : pcDen ν pc) (a b : SI) (f g : Lf) (hf : lDen ν f = b.den ν - a.den ν) (hg : lDen ν g = a.den ν - b.den ν) : (ltQ pc a b f g).den ν = decide (a.den ν < b.den ν) := by
  unfold ltQ
  split
  · rename_i h
    have := geQ_ok hd h
    simp only [SB.den]
    exact (decide_eq_true (by omega)).symm
  · split
    · rename_i h
      have := geQ_ok hd h
      simp only [SB.den]
      exact (decide_eq_false (by omega)).symm
    · exact ltN_den a b f hf
theorem isV_eq {v : Int} {o : OI} (h : isV v o = true) : o = some v := by
  cases o with
  | none => cases h
  | some m => rw [intBeq_eq h]
theorem eqV_den {pc : PC} (hd : pcDen ν pc) (x : SI) (v : Int) : (eqV pc x v).den ν = (x.den ν == v) := by
  have hb := bnd_ok hd x
  unfold eqV
  generalize bnd pc x = p at hb
  obtain ⟨lo, hi⟩ := p
  simp only at hb ⊢
  split
  · rename_i h
    have h0 := hb.1 v (isV_eq h)
    simp only [SB.den]
    by_cases h2 : x.den ν = v
    · rw [beq_iff_eq.2 h2]; exact decide_eq_true (show x.den ν < v + 1 by omega)
    · rw [beq_eq_false_iff_ne.2 h2]; exact decide_eq_false (show ¬ x.den ν < v + 1 by omega)
  · split
    · rename_i h
      have h0 := hb.2 v (isV_eq h)
      simp only [SB.den]
      by_cases h2 : x.den ν = v
      · rw [beq_iff_eq.2 h2, decide_eq_false (show ¬ x.den ν < (SI.lit v).den ν from fun h3 => by have h3 : x.den ν < v := h3; omega)]; rfl
      · rw [beq_eq_false_iff_ne.2 h2, decide_eq_true (show x.den ν < (SI.lit v).den ν from (show x.den ν < v by omega))]; rfl
    · rfl
theorem eqN_den {pc : PC} (hd : pcDen ν pc) (a b : SI) (f : Lf) (hf : lDen ν f = b.den ν - a.den ν) : (eqN pc a b f).den ν = (a.den ν == b.den ν) := by
  unfold eqN
  split
  · rename_i c x
    simp only [lDen, tDen] at hf
    have : (Int.negSucc 0 : Int) = -1 := rfl
    rw [this] at hf
    rw [eqV_den hd, Bool.eq_iff_iff, beq_iff_eq, beq_iff_eq]
    omega
  · rename_i c x
    simp only [lDen, tDen] at hf
    have : (Int.ofNat 1 : Int) = 1 := rfl
    rw [this] at hf
    rw [eqV_den hd, Bool.eq_iff_iff, beq_iff_eq, beq_iff_eq]
    omega
  · rfl
theorem eqQ_den {pc : PC} (hd : pcDen ν pc) (a b : SI) (f g : Lf) (hf : lDen ν f = b.den ν - a.den ν) (hg : lDen ν g = a.den ν - b.den ν) : (eqQ pc a b f g).den ν = (a.den ν == b.den ν) := by
  unfold eqQ
  split
  · rename_i h
    simp only [Bool.or_eq_true] at h
    have : a.den ν ≠ b.den ν := by
      rcases h with h | h
      · have := geQ_ok hd h; omega
      · have := geQ_ok hd h; omega
    simp [SB.den, this]
  · split
    · rename_i h
      simp only [Bool.and_eq_true] at h
      have h1 := geQ_ok hd h.1
      have h2 := geQ_ok hd h.2
      have : a.den ν = b.den ν := by omega
      simp [SB.den, this]
    · exact eqN_den hd a b f hf
theorem lin_two (a b : SI) : lDen ν (lin b 1 (lin a (-1) (0, []))) = b.den ν - a.den ν := by
  rw [lin_den, lin_den]
  simp only [lDen, tDen]; omega
theorem simpB_den {pc : PC} (hd : pcDen ν pc) : ∀ (e : SB), (simpB pc e).den ν = e.den ν := by
  intro e
  induction e using simpB.induct with
  | case1 => simp only [simpB]
  | case2 e ih => simp only [simpB, SB.mkNot_den, ih]; simp [SB.den]
  | case3 a b => simp only [simpB]; rw [ltQ_den hd a b _ _ (lin_two a b) (lin_two b a)]; rfl
  | case4 a b => simp only [simpB]; rw [eqQ_den hd a b _ _ (lin_two a b) (lin_two b a)]; rfl
  | case5 e ih => simp only [simpB, ih]; simp [SB.den]
  | case6 e ih => simp only [simpB, SB.mkNot_den, ih]; simp [SB.den]
  | case7 e => rw [simpB] <;> assumption
theorem decB_den {pc : PC} (hd : pcDen ν pc) {e : SB} {b : Bool} (h : decB pc e = some b) : e.den ν = b := by
  unfold decB at h
  rw [← simpB_den hd e]
  split at h
  · rename_i v hv; cases h; rw [hv]; rfl
  · exact SB.known_den hd h
/-- a < b, by two facts where one is not enough -/
def decS (pc : PC) (a b : SI) : Option Bool := match decB pc (SB.mkLt a b) with
  | some v => some v
  | none => if any2 pc (lin b 1 (lin a (-1) (0, []))) 1 (pc.take 2) then some true else none
theorem decS_den {pc : PC} (hd : pcDen ν pc) {a b : SI} {v : Bool} (h : decS pc a b = some v) : (SB.mkLt a b).den ν = v := by
  unfold decS at h
  split at h
  · rename_i w hw; cases h; exact decB_den hd hw
  · split at h
    · rename_i h2
      cases h
      have h1 := any2_ok hd (fun c b hm => hd c b (List.mem_of_mem_take hm)) h2
      rw [lin_den, lin_den] at h1
      simp only [lDen, tDen] at h1
      rw [SB.mkLt_den]
      exact decide_eq_true (by omega)
    · cases h
theorem nnB_den {pc : PC} (hd : pcDen ν pc) {i : SI} (h : nnB pc i = true) : 0 ≤ i.den ν := by
  unfold nnB at h
  split at h
  · rename_i m hm; exact Int.le_trans (Int.natCast_nonneg m) ((bnd_ok hd i).1 _ hm)
  · cases h
theorem inR_den {pc : PC} (hd : pcDen ν pc) {i : SI} {l : SL} (h : inR pc i l = true) : i.den ν < (l.den ν).length := by
  unfold inR at h
  split at h
  · rename_i h1
    have := decB_den hd h1
    rw [SB.mkLt_den, eqR_den hd, SI.mkLen_den] at this
    exact of_decide_eq_true this
  · cases h
theorem nthS_den {pc : PC} (hd : pcDen ν pc) {j : SI} (hj : 0 ≤ j.den ν) : ∀ (l : SL), (j.den ν).toNat < (l.den ν).length → (nthS pc l j).den ν = (l.den ν).getD (j.den ν).toNat 0
  | .set l i x, hl => by
    unfold nthS
    split
    · rename_i h
      have := decB_den hd h
      rw [SB.mkEq_den, beq_iff_eq] at this
      simp only [SL.den, List.length_set] at hl ⊢
      rw [this]
      simp [List.getD_eq_getElem?_getD, hl]
    · rename_i h
      split
      · rename_i hn
        have h1 := decB_den hd h
        rw [SB.mkEq_den, beq_eq_false_iff_ne] at h1
        have h2 := nnB_den hd hn
        simp only [SL.den, List.length_set] at hl
        rw [nthS_den hd hj l hl]
        simp only [SL.den, List.getD_eq_getElem?_getD, List.getElem?_set]
        rw [if_neg (by omega)]
      · exact SI.mkNth_den _ _ _
    · exact SI.mkNth_den _ _ _
  | .nil, _ | .cons _ _, _ | .var _, _ | .app _ _, _ | .take _ _, _ | .drop _ _, _ | .rep _ _, _ | .gl _ _ _ _, _ => by unfold nthS; exact SI.mkNth_den _ _ _
theorem setS_den {pc : PC} (hd : pcDen ν pc) {j v : SI} (hj : 0 ≤ j.den ν) : ∀ (l : SL), (setS pc l j v).den ν = (l.den ν).set (j.den ν).toNat (v.den ν)
  | .set l i x => by
    unfold setS
    split
    · rename_i h
      have := decB_den hd h
      rw [SB.mkEq_den, beq_iff_eq] at this
      rw [SL.mkSet_den]
      simp only [SL.den]
      rw [this, List.set_set]
    · rename_i h
      split
      · rename_i hn
        have h1 := decB_den hd h
        rw [SB.mkEq_den, beq_eq_false_iff_ne] at h1
        have h2 := nnB_den hd hn
        simp only [SL.den]
        rw [setS_den hd hj l]
        exact List.set_comm _ _ (by omega)
      · rfl
    · exact SL.mkSet_den _ _ _ _
  | .nil | .cons _ _ | .var _ | .app _ _ | .take _ _ | .drop _ _ | .rep _ _ | .gl _ _ _ _ => by unfold setS; exact SL.mkSet_den _ _ _ _
theorem simpL_den {pc : PC} (hd : pcDen ν pc) (l : SL) (i : SI) : (simpL pc l i).den ν = (l.den ν).getD (i.den ν).toNat 0 := by
  unfold simpL
  split
  · rename_i l j x
    split
    · rename_i h
      simp only [Bool.and_eq_true] at h
      have h1 := nnB_den hd h.1
      have h2 := inR_den hd h.2
      rw [eqR_den hd, nthS_den hd h1 _ (by omega)]
    · rw [eqR_den hd]; rfl
  · rw [eqR_den hd]; rfl
theorem wrapQ_den {pc : PC} (hd : pcDen ν pc) (k : IntKind) (a e : SI) (he : e.den ν = k.wrap (a.den ν)) : (wrapQ pc k a e).den ν = k.wrap (a.den ν) := by
  unfold wrapQ
  split
  · split
    · rename_i hw
      simp only [Bool.and_eq_true] at hw
      have h1 := geQ_ok hd hw.2.1
      have h2 := geQ_ok hd hw.2.2
      rw [lin_den] at h1 h2
      simp only [lDen, tDen] at h1 h2
      rw [wrap_id k _ (by omega) (by omega)]
    · exact he
  · exact he
theorem simpW_den {pc : PC} (hd : pcDen ν pc) (k : IntKind) (a : SI) : (simpW pc k a).den ν = k.wrap (a.den ν) := by
  unfold simpW
  split
  · rfl
  · split
    · rename_i hw
      have h := bnd_ok hd a
      unfold within at hw
      split at hw
      · rename_i x y hx
        rw [hx] at h
        simp only [Bool.and_eq_true, decide_eq_true_eq] at hw
        have h1 := h.1 x rfl
        have h2 := h.2 y rfl
        rw [wrap_id k _ (by omega) (by omega)]
      · cases hw
    · exact wrapQ_den hd k a _ (by rw [eqR_den hd]; rfl)
theorem simpN_den {pc : PC} (hd : pcDen ν pc) (a : SI) : (simpN pc a).den ν = ((a.den ν).toNat : Int) := by
  unfold simpN
  split
  · rfl
  · split
    · rename_i m hm
      have h := (bnd_ok hd a).1 _ hm
      have : (0 : Int) ≤ Int.ofNat m := Int.natCast_nonneg m
      omega
    · rw [eqR_den hd]; rfl
theorem leD_den {pc : PC} (hd : pcDen ν pc) {a b : SI} (h : leD pc a b = true) : a.den ν ≤ b.den ν := by
  unfold leD at h
  split at h
  · rename_i h1
    have := decB_den hd h1
    rw [SB.mkLt_den] at this
    have := of_decide_eq_false this
    omega
  · cases h
theorem lenS_den {pc : PC} (hd : pcDen ν pc) : ∀ (l : SL), (lenS pc l).den ν = ((l.den ν).length : Int)
  | .nil => by simp [lenS, SI.den, SL.den]
  | .cons _ l => by simp only [lenS, SI.mkAdd_den, lenS_den hd l, SI.den, SL.den, List.length_cons]; omega
  | .app a b => by simp only [lenS, SI.mkAdd_den, lenS_den hd a, lenS_den hd b, SL.den, List.length_append]; omega
  | .set l _ _ => by simp only [lenS, lenS_den hd l, SL.den, List.length_set]
  | .take l n => by
    unfold lenS
    split
    · rename_i h
      simp only [Bool.and_eq_true] at h
      have h1 := nnB_den hd h.1
      have h2 := leD_den hd h.2
      rw [lenS_den hd l] at h2
      simp only [SL.den, List.length_take]; omega
    · rw [eqR_den hd]; rfl
  | .drop l n => by
    unfold lenS
    split
    · rename_i h
      simp only [Bool.and_eq_true] at h
      have h1 := nnB_den hd h.1
      have h2 := leD_den hd h.2
      rw [lenS_den hd l] at h2
      simp only [SI.mkSub_den, lenS_den hd l, SL.den, List.length_drop]; omega
    · rw [eqR_den hd]; rfl
  | .rep n x => by simp only [lenS, simpN_den hd, SL.den, List.length_replicate]
  | .var i => by simp only [lenS, eqR_den hd]; rfl
  | .gl f g a b => by simp only [lenS, eqR_den hd]; rfl
theorem simpI_den {pc : PC} (hd : pcDen ν pc) : ∀ (e : SI), (simpI pc e).den ν = e.den ν
  | .lit n => rfl
  | .add a b => by simp only [simpI, eqR_den hd, SI.mkAdd_den, simpI_den hd a, simpI_den hd b, SI.den]
  | .sub a b => by simp only [simpI, eqR_den hd, SI.mkSub_den, simpI_den hd a, simpI_den hd b, SI.den]
  | .wrap k a => by simp only [simpI, simpW_den hd, simpI_den hd a, SI.den]
  | .nat a => by simp only [simpI, simpN_den hd, simpI_den hd a, SI.den]
  | .nth l i => by simp only [simpI, simpL_den hd, simpI_den hd i, SI.den]
  | .len l => by simp only [simpI, lenS_den hd, SI.den]
  | .var _ | .mul _ _ | .tdiv _ _ | .tmod _ _ | .fdiv _ _ | .bits _ _ _ _ | .gi _ _ _ _ => eqR_den hd
theorem SB.mkOr_den (a b : SB) : (SB.mkOr a b).den ν = (a.den ν || b.den ν) := by
  unfold SB.mkOr; split <;> simp [SB.den]
theorem knB_den {pc : PC} (hd : pcDen ν pc) (e : SB) : (knB pc e).den ν = e.den ν := by
  unfold knB
  split
  · rfl
  · split
    · rename_i b h; simp only [SB.den, pcFind_den hd h]
    · rfl
  · split
    · rename_i b h; rw [pcFind_den hd h]; rfl
    · rfl
theorem simpC_den {pc : PC} (hd : pcDen ν pc) : ∀ (e : SB), (simpC pc e).den ν = e.den ν := by
  intro e
  induction e using simpC.induct with
  | case1 e ih => simp only [simpC, SB.mkNot_den, ih]; simp [SB.den]
  | case2 a b iha ihb => simp only [simpC, knB_den hd, SB.mkAnd_den, iha, ihb]; simp [SB.den]
  | case3 a b iha ihb => simp only [simpC, knB_den hd, SB.mkOr_den, iha, ihb]; simp [SB.den]
  | case4 a b => simp only [simpC, knB_den hd, simpB_den hd, SB.mkLt_den, simpI_den hd]; rfl
  | case5 a b => simp only [simpC, knB_den hd, simpB_den hd, SB.mkEq_den, simpI_den hd]; rfl
  | case6 e ih => simp only [simpC, ih]; simp [SB.den]
  | case7 e ih => simp only [simpC, SB.mkNot_den, ih]; simp [SB.den]
  | case8 e => rw [simpC] <;> first | assumption | exact knB_den hd _
theorem simpV_den {pc : PC} (hd : pcDen ν pc) (v : SV) : (simpV pc v).den ν ρ = v.den ν ρ := by
  unfold simpV
  split
  · simp only [SV.den, simpI_den hd]
  · simp only [SV.den, simpC_den hd]
  · rfl
theorem simpVS_den {pc : PC} (hd : pcDen ν pc) (v : SV) : (simpVS pc v).den ν ρ = v.den ν ρ := by
  unfold simpVS
  split
  · simp only [SV.den, simpI_den hd]
  · exact simpV_den hd v
end
end Go.Sy
end

section
namespace Go.Sy
open Go Go.RowKit
/-- x[lo:hi], elements of one cell; at the end of the room the place stays. -/
def sliceT (P : Program) (pc : PC) (t : Nat) (x : SV) (lo hi : Option SV) : Option (List (PC × Option SV)) :=
  match P.underlying t with
  | some (.slice e) => match sizeT P e, x with
    | some 1, .sl b off len cap => match boundX (.lit 0) lo, boundX (SI.mkNat len) hi with
      | some l, some h => some ((need pc [SB.mkLe (.lit 0) off, SB.mkLe (.lit 0) l, SB.mkLe l h, SB.mkLe h cap]).flatMap fun y =>
          if y.2 then match decS (y.1 ++ pc) l cap with
            | some true => [(y.1, some (.sl b (SI.mkAdd off l) (SI.mkSub h l) (SI.mkSub cap l)))]
            | some false => [(y.1, some (.sl b off (SI.mkSub h l) (SI.mkSub cap l)))]
            | none => [(asm (SB.mkLt l cap) true :: y.1, some (.sl b (SI.mkAdd off l) (SI.mkSub h l) (SI.mkSub cap l))), (asm (SB.mkLt l cap) false :: y.1, some (.sl b off (SI.mkSub h l) (SI.mkSub cap l)))]
          else [(y.1, none)])
      | _, _ => none
    | _, _ => none
  | _ => none
def opSliceT (P : Program) (_ : Nat) (fr : List SV) (pc : PC) (hp : Heap) (o : Oper) : Option (List (PC × ORes)) :=
  match o.op with
  | .slice t x lo hi none => match evalO fr x, optL fr lo, optL fr hi with
    | some v, some l, some h => (sliceT P (roomF hp v l h ++ pc) t v l h).map (outsV hp)
    | _, _, _ => none
  | _ => none
def isSet : SL → Bool
  | .set _ _ _ => true
  | _ => false
def opLoadS (P : Program) (_ : Nat) (fr : List SV) (pc : PC) (hp : Heap) (o : Oper) : Option (List (PC × ORes)) :=
  match o.op with
  | .load t x => match evalO fr x with
    | some (.ptr b off) => match hget b hp with
      | some (.row k l _ _) => if isSet l && nnB pc off then match P.underlying t with
        | some (.int _) => some (outsV hp (ways (need pc [SB.mkLe (.lit 0) off, SB.mkLt off (SI.mkLen l)]) (.int k (nthS pc l off))))
        | _ => none
        else none
      | _ => none
    | _ => none
  | .store t x y => match evalO fr x, evalO fr y with
    | some (.ptr b off), some (.int j e) => match hget b hp with
      | some (.row k l c ty) => if isSet l && nnB pc off && kBeq j k then match sizeT P t with
        | some 1 => some (outsH (ways (need pc [SB.mkLe (.lit 0) off, SB.mkLt off (SI.mkLen l)]) (hset b (.row k (setS pc l off e) c ty) hp)))
        | _ => none
        else none
      | _ => none
    | _, _ => none
  | _ => none

def isCmp : Op → Bool
  | .binOp _ _ _ _ _ | .convert _ _ _ => true
  | .call { callee := .builtin .len, .. } => true
  | _ => false
def opSimp (P : Program) (nm : Nat) (fr : List SV) (pc : PC) (hp : Heap) (o : Oper) : Option (List (PC × ORes)) :=
  match isCmp o.op with
  | true => match opY P nm fr pc hp o with
    | some [([], .val v hp')] => some [([], .val (simpV pc v) hp')]
    | _ => none
  | false => none

section
variable {P : Program} {G : Type} {ν : Env G} {ρ : Nat → Nat} {B : Base} {hp : Heap} {w : World}
/-- A row's list, said otherwise. -/
theorem HW.relist (h : HW B ν ρ hp w) {b : Nat} {k : IntKind} {l l' : SL} {c : SI} {ty : Nat} (hm : (b, SBk.row k l c ty) ∈ hp) (hl : l'.den ν = l.den ν) : HW B ν ρ (hset b (.row k l' c ty) hp) w := by
  have hF := h.at hm
  obtain ⟨F, hF⟩ := hF
  refine h.turn (b := .row k l c ty) trivial hm rfl rfl rfl rfl (fun _ _ => rfl) ?_
  have hs := BlkDen.single (n := b) (b := .row k l c ty) trivial hF
  simp only [BlkDen] at hF ⊢
  rw [hl]
  exact ⟨hF.1, fun _ => trivial⟩
theorem hset_hset (b : Nat) (x y : SBk) : ∀ hp : Heap, hset b y (hset b x hp) = hset b y hp
  | [] => rfl
  | (m, c) :: r => by
    unfold hset
    cases h : Nat.beq m b
    · simp only [h, Bool.false_eq_true, if_false]
      simp only [hset, h, Bool.false_eq_true, if_false]
      rw [hset_hset b x y r]
    · simp only [if_true]
      simp only [hset, h, if_true]
theorem mem_hset_self {b : Nat} {x c : SBk} : ∀ {hp : Heap}, (b, c) ∈ hp → (b, x) ∈ hset b x hp
  | [], h => by cases h
  | (m, d) :: r, h => by
    unfold hset
    cases e : Nat.beq m b
    · simp only [Bool.false_eq_true, if_false]
      rcases List.mem_cons.1 h with h | h
      · cases h; rw [Nat.beq_refl] at e; cases e
      · exact List.mem_cons_of_mem _ (mem_hset_self h)
    · simp only [if_true]
      rw [Nat.eq_of_beq_eq_true e]
      exact List.mem_cons_self ..
theorem opLoadS_ok {O : Orac} {I : In G} (oo : OOK P O I) : OOK P (O.withOp (opLoadS P)) I := by
  refine withOp_ok oo ?_
  intro nm fr pc hp o outs hk B ν ρ a w hI hf hpc hw
  unfold opLoadS at hk
  split at hk
  · rename_i t x hop
    split at hk
    case h_2 => cases hk
    rename_i b off hx
    split at hk
    case h_2 => cases hk
    rename_i k l c ty hg
    split at hk
    case isFalse => cases hk
    rename_i hc
    simp only [Bool.and_eq_true] at hc
    split at hk
    case h_2 => cases hk
    rename_i kk hu
    cases hk
    have hl0 : loadX P pc hp t (.ptr b off) = some (ways (need pc [SB.mkLe (.lit 0) off, SB.mkLt off (SI.mkLen l)]) (.int k (SI.mkNth l off))) := by
      simp only [loadX, hg, hu]
    obtain ⟨r, hr, hd, hrun⟩ := loadX_run hw hpc hl0
    obtain ⟨y, hy, rfl⟩ := List.mem_map.1 hr
    obtain ⟨z, hz, hzd, hzc⟩ := need_den (ν := ν) (cs := [SB.mkLe (.lit 0) off, SB.mkLt off (SI.mkLen l)]) hpc
    have hrun' : ∀ v, (if z.2 then some (SV.int k (nthS pc l off)) else none) = some v → (execOp a.eval o).run P w = .ok (.value (v.den ν ρ)) w := by
      intro v hv
      cases hb : z.2 with
      | false => rw [hb] at hv; cases hv
      | true =>
        rw [hb] at hv
        cases hv
        have hcs := hzc hb
        simp only [List.mem_cons, List.not_mem_nil, or_false, forall_eq_or_imp, forall_eq, SB.mkLe_den, SB.mkLt_den, SI.mkLen_den, decide_eq_true_eq] at hcs
        simp only [SI.den] at hcs
        obtain ⟨rest, hheap, _, _⟩ := hw.ints (hget_mem hg)
        have hlt : (off.den ν).toNat < (l.den ν).length := by omega
        have hcell : w.cell? ⟨ρ b, (off.den ν).toNat, none⟩ = some (.int k ((l.den ν).getD (off.den ν).toNat 0)) := by
          rw [cell_at hheap, List.getElem?_append_left (by simpa using hlt)]
          simp only [List.getElem?_map, getD_some hlt, Option.map_some]
        have hload : (Instr.loadAt t ((SV.ptr b off).den ν ρ)).run P w = .ok (.int k ((l.den ν).getD (off.den ν).toNat 0)) w := by
          have hagg : (isAgg t).run P w = .ok false w := by simp [isAgg, run_underlying hu]
          simp [SV.den, Instr.loadAt, Instr.sureAddr, loadVar, hagg, hcell]
        have e : (SV.int k (nthS pc l off)).den ν ρ = .int k ((l.den ν).getD (off.den ν).toNat 0) := by
          simp only [SV.den]
          rw [nthS_den hpc hcs.1 l hlt]
        rw [e]
        simp [execOp, hop, hf.eval hx, hload]
    refine out_V hw (List.mem_map.2 ⟨z, hz, rfl⟩) hzd fun v hv => hrun' v hv
  · rename_i t x y hop
    split at hk
    case h_2 => cases hk
    rename_i b off j e hx hy
    split at hk
    case h_2 => cases hk
    rename_i k l c ty hg
    split at hk
    case isFalse => cases hk
    rename_i hc
    simp only [Bool.and_eq_true] at hc
    split at hk
    case h_2 => cases hk
    rename_i hsz
    cases hk
    have hl0 : storeX P pc hp t (.ptr b off) (.int j e) = some (ways (need pc [SB.mkLe (.lit 0) off, SB.mkLt off (SI.mkLen l)]) (hset b (.row k (.mkSet l off e) c ty) hp)) := by
      simp only [storeX, hg, hsz, hc.2, if_true]
    obtain ⟨r, hr, hd, hrun⟩ := storeX_run hw hpc hl0
    obtain ⟨y', hy', rfl⟩ := List.mem_map.1 hr
    refine out_H (List.mem_map.2 ⟨y', hy', rfl⟩) hd fun h' hh => ?_
    cases hb : y'.2 with
    | false => rw [hb] at hh; cases hh
    | true =>
      rw [hb] at hh
      cases hh
      obtain ⟨w', hrn, hw'⟩ := hrun (hset b (.row k (.mkSet l off e) c ty) hp) (by simp only [hb, if_true])
      refine ⟨w', by simp [execOp, hop, hf.eval hx, hf.eval hy, hrn], ?_⟩
      have := hw'.relist (l := .mkSet l off e) (l' := setS pc l off e) (mem_hset_self (hget_mem hg)) (by rw [setS_den hpc (nnB_den hpc hc.1.2), SL.mkSet_den])
      rwa [hset_hset] at this
  · cases hk
theorem opSimp_ok (pr : PR P) {O : Orac} {I : In G} (oo : OOK P O I) : OOK P (O.withOp (opSimp P)) I := by
  refine withOp_ok oo ?_
  intro nm fr pc hp o outs hk B ν ρ a w hI hf hpc hw
  unfold opSimp at hk
  split at hk
  case h_2 => cases hk
  rename_i hcmp
  split at hk
  case h_2 => cases hk
  rename_i v hp' hv
  cases hk
  rw [opY_eq] at hv
  obtain ⟨r, hr, ν', ρ', hag, hmk, hd, ho⟩ := opX_sound pr hv hf hpc hw
  simp only [List.mem_singleton] at hr
  subst hr
  have hm : makes o.op = false := by
    unfold isCmp at hcmp
    split at hcmp
    · rename_i h; rw [h]; rfl
    · rename_i h; rw [h]; rfl
    · rename_i h; rw [h]; rfl
    · cases hcmp
  obtain ⟨rfl, rfl⟩ := hmk hm
  refine ⟨_, List.mem_singleton.2 rfl, ν', ρ', hag, fun _ => ⟨rfl, rfl⟩, hd, ?_⟩
  obtain ⟨w', h1, h2⟩ := ho
  exact ⟨w', by rw [simpV_den hpc]; exact h1, h2⟩
theorem sliceT_run {pc : PC} (hd : pcDen ν pc) {t : Nat} {x : SV} {lo hi : Option SV} {l : List (PC × Option SV)} (hl : sliceT P pc t x lo hi = some l) (w : World) :
    ∃ r ∈ l, pcDen ν r.1 ∧ ∀ v, r.2 = some v → (Instr.sliceAt t (x.den ν ρ) (lo.map (·.den ν ρ)) (hi.map (·.den ν ρ)) none).run P w = .ok (v.den ν ρ) w := by
  unfold sliceT at hl
  split at hl
  case h_2 => cases hl
  rename_i e hu
  split at hl
  case h_2 => cases hl
  rename_i b off len cap hn
  split at hl
  case h_2 => cases hl
  rename_i lx hx hlx hhx
  cases hl
  obtain ⟨y, hy, hyd, hc⟩ := need_den (ν := ν) (cs := [SB.mkLe (.lit 0) off, SB.mkLe (.lit 0) lx, SB.mkLe lx hx, SB.mkLe hx cap]) hd
  cases hb : y.2 with
  | false => exact ⟨(y.1, none), List.mem_flatMap.2 ⟨y, hy, by simp [hb]⟩, hyd, fun v hv => by cases hv⟩
  | true =>
    have hc := hc hb
    simp only [List.mem_cons, List.not_mem_nil, or_false, forall_eq_or_imp, forall_eq, SB.mkLe_den, decide_eq_true_eq] at hc
    simp only [SI.den] at hc
    obtain ⟨c0, c1, c2, c3⟩ := hc
    have g1 := boundX_den (ν := ν) (ρ := ρ) hlx
    have g2 := boundX_den (ν := ν) (ρ := ρ) hhx
    have key : (Instr.sliceBounds true (len.den ν).toNat (cap.den ν).toNat (lo.map (·.den ν ρ)) (hi.map (·.den ν ρ)) none).run P w = .ok ((lx.den ν).toNat, (hx.den ν).toNat, (cap.den ν).toNat) w := by
      refine run_bounds (P := P) _ _ (cap.den ν).toNat (hx.den ν).toNat (lx.den ν).toNat _ _ _ (.inl ⟨rfl, rfl⟩) ?_ ?_ (Nat.le_refl _) (by omega) (by omega) w
      · rcases g2 with ⟨h1, h2⟩ | ⟨j, h⟩
        · refine .inl ⟨by simp [h1], rfl, ?_⟩
          rw [h2, SI.mkNat_den]; omega
        · exact .inr ⟨j, by rw [h, Int.toNat_of_nonneg (by omega)]⟩
      · rcases g1 with ⟨h1, h2⟩ | ⟨j, h⟩
        · exact .inl ⟨by simp [h1], by rw [h2]; rfl⟩
        · exact .inr ⟨j, by rw [h, Int.toNat_of_nonneg (by omega)]⟩
    have e1 : (off.den ν + lx.den ν).toNat = (off.den ν).toNat + (lx.den ν).toNat := by omega
    have e2 : (hx.den ν - lx.den ν).toNat = (hx.den ν).toNat - (lx.den ν).toNat := by omega
    have e3 : (cap.den ν - lx.den ν).toNat = (cap.den ν).toNat - (lx.den ν).toNat := by omega
    have hin : (SB.mkLt lx cap).den ν = true → (Instr.sliceAt t ((SV.sl b off len cap).den ν ρ) (lo.map (·.den ν ρ)) (hi.map (·.den ν ρ)) none).run P w = .ok ((SV.sl b (SI.mkAdd off lx) (SI.mkSub hx lx) (SI.mkSub cap lx)).den ν ρ) w := by
      intro h
      rw [SB.mkLt_den] at h
      have h := of_decide_eq_true h
      have hml : ¬ (cap.den ν).toNat = (lx.den ν).toNat := by omega
      simp only [Instr.sliceAt, Instr.slice, SV.den, Sem.run_bind, run_underlying hu, Result.andThen_ok, key, sizeT_run hn, Sem.run_pure, SI.mkAdd_den, SI.mkSub_den, e1, e2, e3]
      simp [hml, add_none]
    have hout : (SB.mkLt lx cap).den ν = false → (Instr.sliceAt t ((SV.sl b off len cap).den ν ρ) (lo.map (·.den ν ρ)) (hi.map (·.den ν ρ)) none).run P w = .ok ((SV.sl b off (SI.mkSub hx lx) (SI.mkSub cap lx)).den ν ρ) w := by
      intro h
      rw [SB.mkLt_den] at h
      have h := of_decide_eq_false h
      have hml : (cap.den ν).toNat = (lx.den ν).toNat := by omega
      simp only [Instr.sliceAt, Instr.slice, SV.den, Sem.run_bind, run_underlying hu, Result.andThen_ok, key, sizeT_run hn, Sem.run_pure, SI.mkSub_den, e2, e3]
      simp [hml]
    have hdp : pcDen ν (y.1 ++ pc) := pcDen_append hyd hd
    cases hk : decS (y.1 ++ pc) lx cap with
    | some bb =>
      have hden := decS_den hdp hk
      cases bb with
      | true => exact ⟨_, List.mem_flatMap.2 ⟨y, hy, by simp only [hb, if_true, hk]; exact List.mem_singleton.2 rfl⟩, hyd, fun v hv => by cases hv; exact hin hden⟩
      | false => exact ⟨_, List.mem_flatMap.2 ⟨y, hy, by simp only [hb, if_true, hk]; exact List.mem_singleton.2 rfl⟩, hyd, fun v hv => by cases hv; exact hout hden⟩
    | none =>
      cases hbb : (SB.mkLt lx cap).den ν with
      | true => exact ⟨_, List.mem_flatMap.2 ⟨y, hy, by simp only [hb, if_true, hk]; exact List.mem_cons_self ..⟩, pcDen_asm hbb hyd, fun v hv => by cases hv; exact hin hbb⟩
      | false => exact ⟨_, List.mem_flatMap.2 ⟨y, hy, by simp only [hb, if_true, hk]; exact List.mem_cons_of_mem _ (List.mem_cons_self ..)⟩, pcDen_asm hbb hyd, fun v hv => by cases hv; exact hout hbb⟩
theorem opSliceT_ok {O : Orac} {I : In G} (oo : OOK P O I) : OOK P (O.withOp (opSliceT P)) I := by
  refine withOp_ok oo ?_
  intro nm fr pc hp o outs hk B ν ρ a w hI hf hpc hw
  unfold opSliceT at hk
  split at hk
  case h_2 => cases hk
  rename_i t x lo hi hop
  split at hk
  case h_2 => cases hk
  rename_i v l h hv hl hh
  simp only [Option.map_eq_some_iff] at hk
  obtain ⟨ls, hls, rfl⟩ := hk
  obtain ⟨r, hr, hp', hrun⟩ := sliceT_run (ν := ν) (ρ := ρ) (pcDen_append (roomF_den hw v l h) hpc) hls w
  refine out_V hw hr hp' fun u hu => ?_
  have := hrun u hu
  simp only [execOp, hop, hf.eval hv, optL_den hf hl, optL_den hf hh, Option.map_none]
  simp [this]
end
end Go.Sy
end

section
namespace Go.Sy
open Go Go.RowKit

def prC (pc : PC) (e : SB) (b : Bool) (r : PC) : Option PC := match e with
  | .lit v => if bBeq v b then some r else none
  | e => some (asm e b :: r)
/-- New conditions, newest first, on a path: in short; 'none': they cannot all be. -/
def prP (pc : PC) : PC → Option PC
  | [] => some []
  | (c, b) :: r => match prP pc r with
    | none => none
    | some r' => prC pc (simpC (r' ++ pc) c) b r'
def prOuts (pc : PC) (l : List (PC × ORes)) : List (PC × ORes) := l.filterMap fun x => match x.1 with
  | [] => some x
  | q => (prP pc q).map (·, x.2)
/-- what an operation that makes nothing gives, in short -/
def simpR (pc : PC) (o : Op) : PC × ORes → PC × ORes
  | (q, .val v hp) => match makes o with
    | true => (q, .val v hp)
    | false => match o with
      | .slice _ _ _ _ _ => (q, .val (simpVS pc v) hp)
      | _ => (q, .val (simpV pc v) hp)
  | x => x
theorem simpR_pc (pc : PC) (o : Op) (x : PC × ORes) : (simpR pc o x).1 = x.1 := by
  obtain ⟨q, r⟩ := x
  cases r <;> simp only [simpR]
  split
  · rfl
  · split <;> rfl
def prOp (P : Program) (pc : PC) (o : Oper) (l : List (PC × ORes)) : List (PC × ORes) := (prOuts pc l).map (simpR pc o.op)
def prLeaf (n : Nat) (c : CLeaf) : Option CLeaf := match c.pc.take (c.pc.length - n) with
  | [] => some c
  | q => (prP (c.pc.drop (c.pc.length - n)) q).map fun q' => { c with pc := q' ++ c.pc.drop (c.pc.length - n) }
def Orac.pruned (P : Program) (O : Orac) : Orac :=
  { O with
    call := fun f lo args pc hp => match O.call f lo args pc hp with
      | some (some cs) => some (some (cs.filterMap (prLeaf pc.length)))
      | r => r
    op := fun nm fr pc hp o => match O.op nm fr pc hp o with
      | some outs => some (prOp P pc o outs)
      | none => match opY P nm fr pc hp o with
        | some outs => some (prOp P pc o outs)
        | none => none }

section
variable {P : Program} {G : Type} {ν : Env G} {ρ : Nat → Nat} {B : Base} {hp : Heap} {w : World}
theorem prC_den {pc : PC} {e : SB} {b : Bool} {r : PC} (h : e.den ν = b) (hr : pcDen ν r) : ∃ q, prC pc e b r = some q ∧ pcDen ν q := by
  unfold prC
  split
  · rename_i v
    have : v = b := h
    subst this
    exact ⟨r, by cases v <;> rfl, hr⟩
  · exact ⟨_, rfl, pcDen_asm h hr⟩
theorem prP_den {pc : PC} (hd : pcDen ν pc) : ∀ {l : PC}, pcDen ν l → ∃ q, prP pc l = some q ∧ pcDen ν q
  | [], _ => ⟨[], rfl, pcDen_nil ν⟩
  | (c, b) :: r, h => by
    obtain ⟨q, h1, h2⟩ := prP_den hd (l := r) fun c b hm => h c b (List.mem_cons_of_mem _ hm)
    simp only [prP, h1]
    refine prC_den ?_ h2
    rw [simpC_den (pcDen_append h2 hd)]
    exact h c b (List.mem_cons_self ..)
theorem prOuts_ok {pc : PC} (hpc : pcDen ν pc) {o : Oper} {a : Act} {nm : Nat} {outs : List (PC × ORes)} (h : OutsOK P B o a w hp nm ν ρ outs) : OutsOK P B o a w hp nm ν ρ (prOuts pc outs) := by
  obtain ⟨r, hr, ν', ρ', hag, hmk, hd, ho⟩ := h
  obtain ⟨q, r2⟩ := r
  cases q with
  | nil => exact ⟨([], r2), List.mem_filterMap.2 ⟨_, hr, rfl⟩, ν', ρ', hag, hmk, hd, ho⟩
  | cons x q =>
    obtain ⟨q', h1, h2⟩ := prP_den hpc hd
    exact ⟨(q', r2), List.mem_filterMap.2 ⟨_, hr, by simp only [h1, Option.map_some]⟩, ν', ρ', hag, hmk, h2, ho⟩
theorem prOp_ok {pc : PC} (hpc : pcDen ν pc) {o : Oper} {a : Act} {nm : Nat} {outs : List (PC × ORes)} (h : OutsOK P B o a w hp nm ν ρ outs) : OutsOK P B o a w hp nm ν ρ (prOp P pc o outs) := by
  obtain ⟨r, hr, ν', ρ', hag, hmk, hd, ho⟩ := prOuts_ok hpc h
  obtain ⟨q, r2⟩ := r
  refine ⟨_, List.mem_map.2 ⟨_, hr, rfl⟩, ν', ρ', hag, hmk, by rw [simpR_pc]; exact hd, ?_⟩
  cases r2 with
  | val v hp' =>
    cases hm : makes o.op with
    | true => simp only [simpR, hm]; exact ho
    | false =>
      obtain ⟨rfl, rfl⟩ := hmk hm
      obtain ⟨w', h1, h2⟩ := ho
      simp only [simpR, hm]
      split
      · exact ⟨w', by rw [simpVS_den hpc]; exact h1, h2⟩
      · exact ⟨w', by rw [simpV_den hpc]; exact h1, h2⟩
  | _ => exact ho
theorem pruned_ok (pr : PR P) {O : Orac} {I : In G} (oo : OOK P O I) : OOK P (O.pruned P) I where
  loop := oo.loop
  tail := oo.tail
  order := oo.order
  op := by
    intro nm fr pc hp o outs hk B ν ρ a w hI hpu hf hpc hw
    simp only [Orac.pruned] at hk
    split at hk
    · rename_i r hr
      cases hk
      exact prOp_ok hpc (oo.op hr B ν ρ a w hI hpu hf hpc hw)
    · split at hk
      · rename_i r hr
        cases hk
        rw [opY_eq] at hr
        exact prOp_ok hpc (opX_sound pr hr hf hpc hw)
      · cases hk
  call := by
    intro f lo args pc hp cs hk sz hsz B ν ρ w R hI hpc hw hl
    simp only [Orac.pruned] at hk
    split at hk
    · rename_i cs0 h0
      cases hk
      refine oo.call h0 sz hsz B ν ρ w R hI hpc hw fun c hc ν' ρ' w' hag hd => ?_
      have key : ∃ c', c' ∈ cs0.filterMap (prLeaf pc.length) ∧ c'.bad = c.bad ∧ c'.v = c.v ∧ c'.hp = c.hp ∧ pcDen ν' c'.pc := by
        generalize hq : c.pc.take (c.pc.length - pc.length) = q
        generalize hb : c.pc.drop (c.pc.length - pc.length) = bs
        have happ : c.pc = q ++ bs := by rw [← hq, ← hb, List.take_append_drop]
        have hbs : pcDen ν' bs := fun x b hm => hd x b (by rw [happ]; exact List.mem_append_right _ hm)
        have hqs : pcDen ν' q := fun x b hm => hd x b (by rw [happ]; exact List.mem_append_left _ hm)
        cases q with
        | nil => exact ⟨c, List.mem_filterMap.2 ⟨c, hc, by unfold prLeaf; rw [hq]⟩, rfl, rfl, rfl, hd⟩
        | cons x q =>
          obtain ⟨q', h1, h2⟩ := prP_den hbs hqs
          exact ⟨{ c with pc := q' ++ bs }, List.mem_filterMap.2 ⟨c, hc, by unfold prLeaf; simp only [hq, hb, h1, Option.map_some]⟩, rfl, rfl, rfl, pcDen_append h2 hbs⟩
      obtain ⟨c', hm, e1, e2, e3, hd'⟩ := key
      obtain ⟨g1, g2⟩ := hl c' hm ν' ρ' w' hag hd'
      rw [e1] at g1
      rw [e2, e3] at g2
      exact ⟨g1, g2⟩
    · rename_i hn
      exact (hn _ hk).elim
end
end Go.Sy
end

section
namespace Go.Sy
open Go Go.RowKit

/-- what rows say of their room, where it has a name -/
def rowsF : Heap → PC
  | [] => []
  | (_, .row _ l (.var m) _) :: r => asm (SB.mkLe (SI.mkLen l) (.var m)) true :: rowsF r
  | _ :: r => rowsF r
def withRows (L : Leaf) : Leaf := match L.ex with
  | .bad => L
  | _ => { L with pc := rowsF L.hp ++ L.pc }
theorem rowsF_den {G : Type} {B : Base} {ν : Env G} {ρ : Nat → Nat} {hp : Heap} {w : World} (hw : HW B ν ρ hp w) : pcDen ν (rowsF hp) := by
  have key : ∀ q : Heap, (∀ x ∈ q, x ∈ hp) → pcDen ν (rowsF q) := by
    intro q
    induction q using rowsF.induct with
    | case1 => intro _; exact pcDen_nil ν
    | case2 n k l m ty r ih =>
      intro h
      obtain ⟨rest, _, hc, _⟩ := hw.ints (h _ (List.mem_cons_self ..))
      simp only [rowsF]
      refine pcDen_asm ?_ (ih fun x hx => h x (List.mem_cons_of_mem _ hx))
      rw [SB.mkLe_den, SI.mkLen_den]
      exact decide_eq_true (by rw [hc]; omega)
    | case3 x r hx ih =>
      intro h
      rw [rowsF]
      · exact ih fun x hx => h x (List.mem_cons_of_mem _ hx)
      · exact hx
  exact key hp fun _ h => h
theorem withRows_ex (L : Leaf) : (withRows L).ex = L.ex := by
  unfold withRows
  split
  · rfl
  · rfl
theorem withRows_sat {G : Type} {lo hi : Nat} {ν : Env G} {ρ : Nat → Nat} {B : Base} {L : Leaf} {a : Act} {w : World} (h : SatL lo hi ν ρ B L a w) : SatL lo hi ν ρ B (withRows L) a w := by
  obtain ⟨ν2, ρ2, e1, e2, e3⟩ := h
  unfold withRows
  split
  · exact ⟨ν2, ρ2, e1, e2, e3⟩
  · rename_i hx
    have hn : NotBad L.ex := by
      cases he : L.ex with
      | bad => exact (hx he).elim
      | _ => trivial
    exact ⟨ν2, ρ2, e1, pcDen_append (rowsF_den (e3 hn).2) e2, e3⟩

section
variable {P : Program} {G : Type} {O : Orac} {I : In G}
/-- A loop whose head has one of several forms, each with a few cases, each its own walk; 'J', 'm': by the form's number. -/
theorem loopC_ok (pr : PR P) (oo : OOK P O I) {f s n it : Nat} {nm : Nat} (hnm : nm = nmAt s) (hs : Nat.ble s 100000 = true) (h1 : (loopsAt P f s).length = 1) {fr0 : List SV} {hp0 : Heap} {bads : PC} {heads tg : List Tgt} {sums : List (List (PC × List SumT))} {start : Mt} {h0 : Tgt} (d : G)
    (hlen : sums.length = heads.length)
    (hbody : ∀ (i : Nat) (h : Tgt) (ss : List (PC × List SumT)), heads[i]? = some h → sums[i]? = some ss → ∀ c ∈ ss, (codeX P O LO7 SZ7 f n it (loopAt P f s) h.fr (c.1 ++ h.pc) h.hp).bind (fun ls => sumsHd P nm LO7 SZ7 heads tg (ls.map withRows)) = some c.2)
    (hh0 : heads[0]? = some h0) (hst : mAll nm 0 0 P fr0 hp0 h0.fr h0.hp = some start)
    (J : Nat → Env G → Vals G → Prop) (m : Nat → Env G → Vals G → Nat)
    (hstart : ∀ ν, ν.I = I → (∀ x ∈ bads, x.1.den ν ≠ x.2) → J 0 ν (start.vals d ν) ∧ pcDen (ν.at nm (start.vals d ν)) h0.pc ∧ start.Owed ν (ν.at nm (start.vals d ν)))
    (cover : ∀ (i : Nat) (h : Tgt) (ss : List (PC × List SumT)), heads[i]? = some h → sums[i]? = some ss → ∀ ν x, ν.I = I → (∀ y ∈ bads, y.1.den ν ≠ y.2) → J i ν x → pcDen (ν.at nm x) h.pc → ∃ c ∈ ss, pcDen (ν.at nm x) c.1)
    (round : ∀ (i : Nat) (h : Tgt) (ss : List (PC × List SumT)), heads[i]? = some h → sums[i]? = some ss → ∀ c ∈ ss, ∀ t ∈ c.2, ∀ ν x ν2, ν.I = I → (∀ y ∈ bads, y.1.den ν ≠ y.2) → J i ν x → pcDen (ν.at nm x) h.pc → pcDen (ν.at nm x) c.1 → RF nm ν x ν2 → pcDen ν2 t.pc →
      match t.ex with
      | .normal => ∀ g, heads[t.k]? = some g → J t.k ν (t.mt.vals d ν2) ∧ pcDen (ν.at nm (t.mt.vals d ν2)) g.pc ∧ m t.k ν (t.mt.vals d ν2) < m i ν x ∧ t.mt.Owed ν2 (ν.at nm (t.mt.vals d ν2))
      | .bad => False
      | _ => (∀ g, tg[t.k]? = some g → pcDen (ν.at nm (t.mt.vals d ν2)) g.pc) ∧ t.mt.Owed ν2 (ν.at nm (t.mt.vals d ν2))) {O' : Orac} (oo' : OOK P O' I) :
    OOK P (O'.withLoop f s nm fr0 hp0 (mkM nm tg bads)) I := by
  have hsm : ∀ {m : Nat}, m < 1000 → out nm (nm + 64) m = true := fun h => by rw [hnm]; exact out_small h
  have hbg : ∀ {j : Nat}, j < 64 → out LO7 (LO7 + SZ7) (nm + j) = true := fun h => by rw [hnm]; exact out_nm7 hs h
  have hbs : ∀ {m : Nat}, m < 1000 → out LO7 (LO7 + SZ7) m = true := fun h => out_big7 h
  refine withLoop_ok oo' h1 ?_
  intro pc sub hsub hpart B ν ρ Q hQ hI hl act w hpc hf hw
  unfold mkM at hl
  cases hp : pav nm (nm + 64) pc with
  | false => rw [hp] at hl; exact (hl ⟨.bad, [], [], []⟩ (by simp) act w ⟨ν, ρ, Agree.refl _ _ _ _, pcDen_nil _, fun h => h.elim⟩).elim
  | true =>
    rw [hp] at hl
    simp only [if_true] at hl
    have hbad : ∀ x ∈ bads, x.1.den ν ≠ x.2 := prune_denG hpc fun x hx he =>
      (hl ⟨.bad, [], x :: pc, []⟩ (List.mem_append_right _ (List.mem_map.2 ⟨x, hx, rfl⟩)) act w ⟨ν, ρ, Agree.refl _ _ _ _, pcDen_one' he hpc, fun h => h.elim⟩).elim
    have hmono : ∀ {ν3 : Env G} {ρ3 : Nat → Nat}, Agree nm (nm + 64) ν ν3 ρ ρ3 → Agree nm (nm + sub) ν ν3 ρ ρ3 := fun h => h.mono (Nat.ble_eq_true_of_le (Nat.le_refl _)) (Nat.ble_eq_true_of_le (by omega))
    -- one way from what is there to the head's form
    have conv : ∀ {lo' sz' : Nat} {x1 : Vals G} {ν1 ν2 : Env G} {ρ1 ρ2 : Nat → Nat} {mt : Mt} {us ts : List SV} {hu ht : Heap}, Agree nm (nm + 64) ν ν1 ρ ρ1 → Agree lo' (lo' + sz') ν1 ν2 ρ1 ρ2 → mAll nm lo' sz' P us hu ts ht = some mt → mt.Owed ν2 (ν.at nm (mt.vals d ν2)) →
        ∃ ρ3, Agree nm (nm + 64) ν (ν.at nm (mt.vals d ν2)) ρ ρ3 ∧ (∀ act, FR ν2 ρ2 us act → FR (ν.at nm (mt.vals d ν2)) ρ3 ts act) ∧ ∀ w, HW B ν2 ρ2 hu w → HW B (ν.at nm (mt.vals d ν2)) ρ3 ht w := by
      intro lo' sz' x1 ν1 ν2 ρ1 ρ2 mt us ts hu ht a1 a2 hm ho
      have hfine := mAll_fine hm
      let ρ3 : Nat → Nat := fun m => match inH nm m, lkp m mt.b with | true, some n => ρ2 n | _, _ => ρ m
      have hr3 : ∀ n, out nm (nm + 64) n = true → ρ3 n = ρ n := fun n hn => by
        show (match inH nm n, lkp n mt.b with | true, some n => ρ2 n | _, _ => ρ n) = ρ n
        rw [inH_out hn]
      have a3 : Agree nm (nm + 64) ν (ν.at nm (mt.vals d ν2)) ρ ρ3 := at_agree hr3
      have hsat : mt.Sat nm ν2 (ν.at nm (mt.vals d ν2)) ρ2 ρ3 := mt_sat hfine (fun j hj => at_i hj) (fun j hj => at_l hj) (fun j hj => at_g hj) ho
      have kr : KeepR nm lo' sz' ρ2 ρ3 := fun n h1 h2 => by rw [hr3 n h1, a2.r n h2, a1.r n h1]
      obtain ⟨k1, k2⟩ := mAll_den (okAll_of a1 a2 a3) kr hm hsat
      exact ⟨ρ3, a3, k1, fun w => k2 B w⟩
    obtain ⟨g1, g2, g3⟩ := hstart ν hI hbad
    obtain ⟨ρ0, s1, s2, s3⟩ := conv (x1 := start.vals d ν) (Agree.refl _ _ ν ρ) (Agree.refl 0 (0 + 0) ν ρ) hst g3
    refine wp_loop_ghost (fun k act w => ∃ i h x ρ1, heads[i]? = some h ∧ Agree nm (nm + 64) ν (ν.at nm x) ρ ρ1 ∧ J i ν x ∧ pcDen (ν.at nm x) h.pc ∧ m i ν x = k ∧ FR (ν.at nm x) ρ1 h.fr act ∧ HW B (ν.at nm x) ρ1 h.hp w) (m 0 ν (start.vals d ν)) ⟨0, h0, _, ρ0, hh0, s1, g1, g2, rfl, s2 _ hf, s3 _ hw⟩ ?_
    rintro k act w ⟨i, h, x, ρ1, hi, k1, k2, k3, k4, k5, k6⟩
    have hlt : i < sums.length := by rw [hlen]; exact (List.getElem?_eq_some_iff.1 hi).1
    obtain ⟨ss, hss⟩ : ∃ ss, sums[i]? = some ss := ⟨_, List.getElem?_eq_getElem hlt⟩
    obtain ⟨cc, hcc, hcp⟩ := cover i h ss hi hss ν x hI hbad k2 k3
    have hbody := hbody i h ss hi hss cc hcc
    cases hb : codeX P O LO7 SZ7 f n it (loopAt P f s) h.fr (cc.1 ++ h.pc) h.hp with
    | none => rw [hb] at hbody; cases hbody
    | some lsB =>
    rw [hb] at hbody
    simp only [Option.bind_some] at hbody
    refine x_code pr oo hb hpart B (ν.at nm x) ρ1 (Exit.then _ Q) (k1.I.trans hI) (fun ch a w hq => hQ ch a w hq) ?_ act w ⟨ν.at nm x, ρ1, Agree.refl _ _ _ _, pcDen_append hcp k3, fun _ => ⟨k5, k6⟩⟩
    intro L0 hL0 act' w' hs0
    obtain ⟨ν2, ρ2, e1, e2, e3⟩ := withRows_sat hs0
    rw [← withRows_ex L0]
    have hL : withRows L0 ∈ lsB.map withRows := List.mem_map.2 ⟨L0, hL0, rfl⟩
    generalize withRows L0 = L at hL e1 e2 e3
    obtain ⟨t, ht, hsum⟩ := sumsHd_mem hbody L hL
    have rf : RF nm ν x ν2 :=
      ⟨e1.I.trans k1.I, fun j hj => (e1.i _ (hbg hj)).trans (at_i hj), fun j hj => (e1.l _ (hbg hj)).trans (at_l hj), fun j hj => (e1.g _ (hbg hj)).trans (at_g hj),
        fun j hj => (e1.i _ (hbs hj)).trans (at_io (hsm hj)), fun j hj => (e1.l _ (hbs hj)).trans (at_lo (hsm hj)), fun j hj => (e1.g _ (hbs hj)).trans (at_go (hsm hj)), fun j hj => (e1.b _ (hbs hj))⟩
    have hr := round i h ss hi hss cc hcc t ht ν x ν2 hI hbad k2 k3 hcp rf
    unfold sumHd at hsum
    cases hex : L.ex with
    | normal =>
      rw [hex] at hsum e3
      simp only [Option.map_eq_some_iff] at hsum
      obtain ⟨⟨k', mt⟩, hfind, rfl⟩ := hsum
      obtain ⟨-, t', ht', m2, hm⟩ := findT_some hfind
      rw [Nat.sub_zero] at ht'
      obtain ⟨q1, q2, q3, q4⟩ := hr e2 t' ht'
      obtain ⟨hf2, hw2⟩ := e3 trivial
      obtain ⟨ρ3, b1, b2, b3⟩ := conv (x1 := x) k1 e1 hm q4
      exact ⟨_, by rw [← k4]; exact q3, k', t', _, ρ3, ht', b1, q1, q2, rfl, b2 _ hf2, b3 _ hw2⟩
    | exit i' =>
      rw [hex] at hsum e3
      simp only [Option.map_eq_some_iff] at hsum
      obtain ⟨⟨k', mt⟩, hfind, rfl⟩ := hsum
      obtain ⟨-, t', ht', m2, hm⟩ := findT_some hfind
      rw [Nat.sub_zero] at ht'
      have m1 := List.mem_of_getElem? ht'
      rw [hex] at m2
      obtain ⟨q2, q3⟩ := hr e2
      obtain ⟨hf2, hw2⟩ := e3 trivial
      obtain ⟨ρ3, b1, b2, b3⟩ := conv (x1 := x) k1 e1 hm q3
      have := hl ⟨t'.ex, t'.fr, t'.pc ++ pc, t'.hp⟩ (List.mem_append_left _ (List.mem_map.2 ⟨t', List.mem_filter.2 ⟨m1, by rw [m2]; rfl⟩, rfl⟩)) act' w'
        ⟨_, ρ3, hmono b1, pcDen_append (q2 t' ht') (pcDen_agree b1 hp hpc), fun _ => ⟨b2 _ hf2, b3 _ hw2⟩⟩
      simp only [m2] at this
      exact this
    | ret =>
      rw [hex] at hsum e3
      simp only [Option.map_eq_some_iff] at hsum
      obtain ⟨⟨k', mt⟩, hfind, rfl⟩ := hsum
      obtain ⟨-, t', ht', m2, hm⟩ := findT_some hfind
      rw [Nat.sub_zero] at ht'
      have m1 := List.mem_of_getElem? ht'
      rw [hex] at m2
      obtain ⟨q2, q3⟩ := hr e2
      obtain ⟨hf2, hw2⟩ := e3 trivial
      obtain ⟨ρ3, b1, b2, b3⟩ := conv (x1 := x) k1 e1 hm q3
      have := hl ⟨t'.ex, t'.fr, t'.pc ++ pc, t'.hp⟩ (List.mem_append_left _ (List.mem_map.2 ⟨t', List.mem_filter.2 ⟨m1, by rw [m2]; rfl⟩, rfl⟩)) act' w'
        ⟨_, ρ3, hmono b1, pcDen_append (q2 t' ht') (pcDen_agree b1 hp hpc), fun _ => ⟨b2 _ hf2, b3 _ hw2⟩⟩
      simp only [m2] at this
      exact this
    | bad =>
      rw [hex] at hsum
      simp only [Option.some.injEq] at hsum
      subst hsum
      exact (hr e2).elim
end
end Go.Sy
end

section
namespace Go.Sy
open Go Go.RowKit

/-! ### calls that are known by heart: many templates of one function, looked up by a number in the state -/
section
variable {P : Program} {G : Type} {O : Orac} {I : In G}
/-- The third number behind the first argument (a loom's steps). -/
def keyC (args : List SV) (hp : Heap) : Option Nat := match args with
  | .ptr b _ :: _ => match hget b hp with
    | some (.cells (_ :: _ :: .int _ (.lit (.ofNat n)) :: _) _ _) => some n
    | _ => none
  | _ => none
def memoK (P : Program) (key : List SV → Heap → Option Nat) (ms : List (Nat × Tmpl × List CLeaf)) (lo : Nat) (args : List SV) (pc : PC) (hp : Heap) : Option (List CLeaf) :=
  match key args hp with
  | none => none
  | some n => match lkp n ms with
    | none => none
    | some m => match sumK P m.1 m.2 lo args pc hp with
      | none => none
      | some cs => if cs.any (·.bad) then none else some cs
theorem memo_ok (pr : PR P) {O0 : Orac} (oo : OOK P O0 I) {f : Nat} {key : List SV → Heap → Option Nat} {ms : List (Nat × Tmpl × List CLeaf)}
    (h : ∀ x ∈ ms, runX P O0 f x.2.1.args x.2.1.pc x.2.1.hp = some x.2.2) {O' : Orac} (oo' : OOK P O' I) : OOK P (O'.withCallF f (memoK P key ms)) I := by
  refine withCallF_ok oo' (withCall_ok oo' ?_)
  intro lo args pc hp cs hk
  unfold memoK at hk
  split at hk
  · cases hk
  · split at hk
    · cases hk
    · rename_i n hn m hm
      split at hk
      · cases hk
      rename_i cs' hs
      split at hk
      · cases hk
      cases hk
      have := (sum_ok pr oo (h _ (lkp_mem hm)) oo').call (f := f) (lo := lo) (args := args) (pc := pc) (hp := hp) (cs := cs)
      refine this ?_
      show (if Nat.beq f f = true then some (sumK P m.1 m.2 lo args pc hp) else _) = _
      rw [if_pos (Nat.beq_refl f), hs]
end
end Go.Sy
end
