import Derived.Test.YtjcphbcjnjeccaaSy10
set_option linter.unusedVariables false
set_option linter.unusedSimpArgs false
namespace Go.Sy
open Go

section
variable {P : Program} {G : Type} {O : Orac} {I : In G}

theorem partOf_seqL {f : Nat} {a b : Code} (h : PartOf P f (.seq a b)) : PartOf P f a := by obtain ⟨fn, body, h1, h2, h3⟩ := h; exact ⟨fn, body, h1, h2, .seqL h3⟩
theorem partOf_seqR {f : Nat} {a b : Code} (h : PartOf P f (.seq a b)) : PartOf P f b := by obtain ⟨fn, body, h1, h2, h3⟩ := h; exact ⟨fn, body, h1, h2, .seqR h3⟩
theorem partOf_block {f i : Nat} {a : Code} (h : PartOf P f (.block i a)) : PartOf P f a := by obtain ⟨fn, body, h1, h2, h3⟩ := h; exact ⟨fn, body, h1, h2, .block h3⟩
theorem partOf_loop {f : Nat} {a : Code} (h : PartOf P f (.loop a)) : PartOf P f a := by obtain ⟨fn, body, h1, h2, h3⟩ := h; exact ⟨fn, body, h1, h2, .loop h3⟩
theorem partOf_condL {f : Nat} {x : Operand} {a b : Code} (h : PartOf P f (.cond x a b)) : PartOf P f a := by obtain ⟨fn, body, h1, h2, h3⟩ := h; exact ⟨fn, body, h1, h2, .condL h3⟩
theorem partOf_condR {f : Nat} {x : Operand} {a b : Code} (h : PartOf P f (.cond x a b)) : PartOf P f b := by obtain ⟨fn, body, h1, h2, h3⟩ := h; exact ⟨fn, body, h1, h2, .condR h3⟩

theorem pure_makes {op : Op} (h : pureOp op = true) : makes op = false := by
  cases op <;> simp [pureOp] at h <;> rfl

theorem step_pure {n lo sz f it rid : Nat} {ops : Array Oper} {i : Nat} {t t' : List Leaf} (h : stepX0 P O lo sz f n it rid ops i t = some t') {o : Oper} (ho : ops[i]? = some o) (hp : pureOp o.op = true) (hg : o.guard = none)
    {B : Base} {ν0 : Env G} {ρ0 : Nat → Nat} {L : Leaf} (hL : L ∈ t) (hn : L.ex = .normal) {a : Act} {w : World} (hs : SatL lo (lo + sz) ν0 ρ0 B L a w) :
    (∃ L' ∈ t', L'.ex = .bad ∧ SatL lo (lo + sz) ν0 ρ0 B L' a w) ∨ ∃ v, Yields P ops o v a ∧ ∃ L' ∈ t', L'.ex = .normal ∧ SatL lo (lo + sz) ν0 ρ0 B L' (a.put o.dst v) w := by
  cases n with
  | zero => simp [stepX0] at h
  | succ n =>
    unfold stepX0 at h
    simp only [ho] at h
    obtain ⟨l1, h1, hsub⟩ := bindL_mem h L hL
    obtain ⟨ex, fr, pc, hp'⟩ := L
    simp only at hn
    subst hn
    obtain ⟨ν, ρ, hag, hpc, hfw⟩ := hs
    obtain ⟨hf, hw⟩ := hfw trivial
    have hwx : wantX ops fr pc o = some [([], true)] := by simp [wantX, hg]
    simp only [hwx, bindO, bindL, if_true, List.nil_append] at h1
    have hmk := pure_makes hp
    generalize hsb : sz / K0 = sub at h1
    generalize hnm : lo + (it * 2 ^ 20 + rid * 256 + i) * sub = nm at h1
    split at h1
    · rename_i a1 b1 ha1 hb1
      simp only [Option.some.injEq] at hb1
      subst hb1
      simp only [List.append_nil, Option.some.injEq] at h1
      subst h1
      split at ha1
      · split at ha1
        · cases ha1
        · rename_i outs houts
          have hwant : Region.wanted o (yielded ops a.tmps) = true := by simp [Region.wanted, hg]
          rw [opO_pure hp] at houts
          rcases pure_yields houts hp hf hpc with rfl | ⟨v, rfl, hrun⟩
          · left
            simp only [bindL, hmk, Bool.false_eq_true, if_false] at ha1
            simp only [List.append_nil, Option.some.injEq] at ha1
            subst ha1
            exact ⟨⟨.bad, [], pc, []⟩, hsub _ (by simp), rfl, ν, ρ, hag, hpc, fun h => h.elim⟩
          · right
            simp only [bindL, hmk, Bool.false_eq_true, if_false] at ha1
            simp only [List.append_nil, Option.some.injEq] at ha1
            subst ha1
            exact ⟨v.den ν ρ, .inl ⟨hwant, hrun⟩, ⟨.normal, fput fr o.dst v, pc, hp'⟩, hsub _ (by simp), rfl, ν, ρ, hag, hpc, fun _ => ⟨hf.put o.dst v, hw⟩⟩
      · cases ha1
    · cases h1

theorem set_toArray (l : List Bool) (i : Nat) : (l.set i true).toArray = l.toArray.setIfInBounds i true := by
  simp

theorem covHyp {K : List Bool → Act → World → Prop} {Q : Exit → Act → World → Prop} {lo hi : Nat} {B : Base} {ν0 : Env G} {ρ0 : Nat → Nat} {G' : Front} (hyp : ∀ l ls, (l, ls) ∈ G' → ∀ L ∈ ls, ∀ a w, SatL lo hi ν0 ρ0 B L a w → RQ (K l) Q L.ex a w) {l : List Bool} {t : List Leaf} (h : CovF (l, t) G') :
    ∀ L ∈ t, ∀ a w, SatL lo hi ν0 ρ0 B L a w → RQ (K l) Q L.ex a w := by
  intro L hL a w hs
  obtain ⟨u, hu, hc⟩ := h
  obtain ⟨M, hM, c⟩ := hc L hL
  have := hyp _ _ hu M hM a w (c.sat hs)
  rw [c.ex]; exact this

theorem ok_level {n : Nat} (ih : ∀ m, m < n → AllOK P O I m) : ∀ {lo sz f it rid : Nat} {ops : Array Oper} {F G1 G' : Front}, levelX0 P O lo sz f n it rid ops F G1 = some G' → (∀ x ∈ G1, CovF x G') ∧ (Region.noSelect ops = true → ∀ (B : Base) (ν0 : Env G) (ρ0 : Nat → Nat) (Q : Exit → Act → World → Prop) (k : Nat), ν0.I = I → NP Q →
    (∀ l ls, (l, ls) ∈ G' → ∀ L ∈ ls, ∀ a w, SatL lo (lo + sz) ν0 ρ0 B L a w → RQ (wpAny P .any ops Q k l.toArray) Q L.ex a w) → ∀ l ls, (l, ls) ∈ F → ∀ L ∈ ls, ∀ a w, SatL lo (lo + sz) ν0 ρ0 B L a w → RQ (wpAny P .any ops Q (k + 1) l.toArray) Q L.ex a w) := by
  intro lo sz f it rid ops F G1 G' h
  cases n with
  | zero => simp [levelX0] at h
  | succ n =>
    unfold levelX0 at h
    cases F with
    | nil =>
      simp only [Option.some.injEq] at h
      subst h
      exact ⟨fun _ h => CovF.of_mem h, fun _ _ _ _ _ _ _ _ _ l ls hm => by cases hm⟩
    | cons x r =>
      obtain ⟨l, t⟩ := x
      simp only at h
      split at h
      · -- one that is pure
        rename_i i hi
        split at h
        · rename_i G2 hG1
          obtain ⟨s1, s2⟩ := (ih n (by omega)).side hG1
          obtain ⟨r1, r2⟩ := (ih n (by omega)).level h
          refine ⟨fun x hx => (s1 x hx).trans r1, fun hsel B ν0 ρ0 Q k hI hQ hyp l' ls' hm L hL a w hs => ?_⟩
          rcases List.mem_cons.1 hm with hm | hm
          · cases hm
            obtain ⟨m, t', hmn, hst, hmem⟩ := s2 i (by simp)
            have hst2 := (ih m (by omega)).step hst B ν0 ρ0 Q (wpAny P .any ops Q k (l.set i true).toArray) hI hQ (covHyp hyp (hmem.trans r1)) L hL a w hs
            have hsome := List.find?_some hi
            have hin := List.mem_of_find?_eq_some hi
            cases hex : L.ex with
            | exit j => rw [hex] at hst2; exact hst2
            | ret => rw [hex] at hst2; exact hst2
            | bad => rw [hex] at hst2; exact hst2
            | normal =>
              simp only [Bool.and_eq_true] at hsome
              obtain ⟨hpu, hfree⟩ := hsome
              cases ho : ops[i]? with
              | none => rw [ho] at hpu; cases hpu
              | some o =>
                rw [ho] at hpu
                simp only [Bool.and_eq_true, Option.isNone_iff_eq_none] at hpu
                show wpAny P .any ops Q (k + 1) l.toArray a w
                rcases step_pure hst ho hpu.1 hpu.2 hL hex hs with ⟨L', hL', hb, hs'⟩ | ⟨v, hy, L', hL', hn, hs'⟩
                · have := covHyp hyp (hmem.trans r1) L' hL' a w hs'
                  rw [hb] at this
                  exact this.elim
                · have h5 := covHyp hyp (hmem.trans r1) L' hL' _ w hs'
                  rw [hn] at h5
                  refine wpAny_take ho hsel hfree ?_ (fun c a w hq => (hQ _ _ _ hq).elim) hy ?_
                  · simpa [readyX] using hin
                  · rw [← set_toArray]; exact h5
          · exact r2 hsel B ν0 ρ0 Q k hI hQ hyp l' ls' hm L hL a w hs
        · cases h
      · -- all that may come up
        split at h
        · cases h
        · rename_i is hne
          split at h
          · rename_i G2 hG1
            obtain ⟨s1, s2⟩ := (ih n (by omega)).side hG1
            obtain ⟨r1, r2⟩ := (ih n (by omega)).level h
            refine ⟨fun x hx => (s1 x hx).trans r1, fun hsel B ν0 ρ0 Q k hI hQ hyp l' ls' hm L hL a w hs => ?_⟩
            rcases List.mem_cons.1 hm with hm | hm
            · cases hm
              have key : ∀ i ∈ readyX ops l, RQ (wpOp P ops Q i (wpAny P .any ops Q k (l.set i true).toArray)) Q L.ex a w := fun i hi => by
                obtain ⟨m, t', hmn, hst, hmem⟩ := s2 i hi
                exact (ih m (by omega)).step hst B ν0 ρ0 Q (wpAny P .any ops Q k (l.set i true).toArray) hI hQ (covHyp hyp (hmem.trans r1)) L hL a w hs
              have hnn : readyX ops l ≠ [] := fun e => hne e
              obtain ⟨i0, hi0⟩ := List.exists_mem_of_ne_nil _ hnn
              have k0 := key i0 hi0
              cases hex : L.ex with
              | exit j => rw [hex] at k0; exact k0
              | ret => rw [hex] at k0; exact k0
              | bad => rw [hex] at k0; exact k0
              | normal =>
                show wpAny P .any ops Q (k + 1) l.toArray a w
                refine ⟨fun h0 => absurd h0 hnn, fun i hi => ?_⟩
                have := key i hi
                rw [hex] at this
                rw [← set_toArray]
                exact this
            · exact r2 hsel B ν0 ρ0 Q k hI hQ hyp l' ls' hm L hL a w hs
          · cases h

theorem ok_draw {n : Nat} (ih : ∀ m, m < n → AllOK P O I m) {lo sz f it rid : Nat} {ops : Array Oper} {k : Nat} {F : Front} {t : List Leaf} (h : drawX0 P O lo sz f n it rid ops k F = some t) (hsel : Region.noSelect ops = true) (B : Base) (ν0 : Env G) (ρ0 : Nat → Nat) (Q : Exit → Act → World → Prop) (hI : ν0.I = I) (hQ : NP Q)
    (hl : ∀ L ∈ t, ∀ a w, SatL lo (lo + sz) ν0 ρ0 B L a w → LQ Q L.ex a w) : ∀ l ls, (l, ls) ∈ F → ∀ L ∈ ls, ∀ a w, SatL lo (lo + sz) ν0 ρ0 B L a w → RQ (wpAny P .any ops Q k l.toArray) Q L.ex a w := by
  cases n with
  | zero => simp [drawX0] at h
  | succ n =>
    unfold drawX0 at h
    cases k with
    | zero =>
      simp only at h
      split at h
      · rename_i l0 t0
        split at h
        · rename_i he
          cases h
          intro l ls hm L hL a w hs
          simp only [List.mem_singleton, Prod.mk.injEq] at hm
          obtain ⟨rfl, rfl⟩ := hm
          have := hl L hL a w hs
          cases hex : L.ex with
          | normal =>
            rw [hex] at this
            refine ⟨?_, this⟩
            simpa [readyX] using he
          | exit j => rw [hex] at this; exact this
          | ret => rw [hex] at this; exact this
          | bad => rw [hex] at this; exact this
        · cases h
      · cases h
    | succ k =>
      simp only at h
      split at h
      · rename_i G hG
        have h1 := (ih n (by omega)).draw h hsel B ν0 ρ0 Q hI hQ hl
        exact ((ih n (by omega)).level hG).2 hsel B ν0 ρ0 Q k hI hQ h1
      · cases h

theorem ok_call (oo : OOK P O I) {n : Nat} (ih : ∀ m, m < n → AllOK P O I m) {lo sz f : Nat} {args : List SV} {pc : PC} {hp : Heap} {cs : List CLeaf} (h : callX0 P O lo sz n f args pc hp = some cs) (B : Base) (ν : Env G) (ρ : Nat → Nat) (w : World) (R : Ending → World → Prop) (hI : ν.I = I) (hpc : pcDen ν pc) (hw : HW B ν ρ hp w)
    (hc : ∀ c ∈ cs, ∀ ν' ρ' w', Agree lo (lo + sz) ν ν' ρ ρ' → pcDen ν' c.pc → c.bad = false ∧ (HW B ν' ρ' c.hp w' → R (.returned (c.v.den ν' ρ')) w')) : Calls P f (denL ν ρ args).toArray w R := by
  cases n with
  | zero => simp [callX0] at h
  | succ n =>
    unfold callX0 at h
    split at h
    · rename_i r hor
      split at h
      · rename_i h64
        subst h
        exact oo.call hor sz (Nat.le_of_ble_eq_true h64) B ν ρ w R hI hpc hw hc
      · cases h
    split at h
    · cases h
    · rename_i fn hfn
      split at h
      · cases h
      · rename_i c hbody
        split at h
        · cases h
        · rename_i ls hls
          refine Calls.mono (R := fun e w' => match e with | .returned _ => R e w' | _ => False) ?_ (fun e w' he => by cases e <;> first | exact he | exact he.elim)
          refine calls_of_wp hfn hbody ?_
          refine (ih n (by omega)).code hls ⟨fn, c, hfn, hbody, .refl c⟩ B ν ρ _ hI (fun ch a w hq => hq.2.elim) ?_ _ w ⟨ν, ρ, Agree.refl _ _ _ _, hpc, fun _ => ⟨FR.of_eq ?_ rfl, hw⟩⟩
          · intro L hL a' w' hs
            obtain ⟨l1, h1, hsub⟩ := bindL_mem h L hL
            obtain ⟨ν', ρ', hag, hpc', hfw⟩ := hs
            have fin : NotBad L.ex → (match resX P L.fr L.hp fn.results.toList with | some vs => some [(⟨false, oneOr vs, L.pc, clean lo (lo + sz) (oneOr vs) L.hp⟩ : CLeaf)] | none => none) = some l1 →
                a'.defers = [] ∧ ∃ v, (results fn a'.tmps).run P w' = .ok v w' ∧ R (.returned v) w' := by
              intro hnb hl1
              obtain ⟨hf, hw'⟩ := hfw hnb
              split at hl1
              · rename_i vs hvs
                cases hl1
                refine ⟨hf.defers, _, results_sound hw' hf hvs, ?_⟩
                exact (hc ⟨false, oneOr vs, L.pc, clean lo (lo + sz) (oneOr vs) L.hp⟩ (hsub _ (by simp)) ν' ρ' w' hag hpc').2 hw'.sub
              · cases hl1
            cases hex : L.ex with
            | normal =>
              rw [hex] at h1 fin
              exact fin trivial h1
            | ret =>
              rw [hex] at h1 fin
              exact fin trivial h1
            | exit j => rw [hex] at h1; cases h1
            | bad =>
              rw [hex] at h1
              simp only [Option.some.injEq] at h1
              subst h1
              have := (hc ⟨true, .tup [], L.pc, []⟩ (hsub _ (by simp)) ν' ρ' w' hag hpc').1
              cases this
          · apply Array.ext'
            rw [denL_append]
            simp [denL_eq, undef_den]

theorem ok_code (pr : PR P) (oo : OOK P O I) {n : Nat} (ih : ∀ m, m < n → AllOK P O I m) {lo sz f it : Nat} {c : Code} {fr : List SV} {pc : PC} {hp : Heap} {ls : List Leaf} (h : codeX0 P O lo sz f n it c fr pc hp = some ls) (hp0 : PartOf P f c) (B : Base) (ν0 : Env G) (ρ0 : Nat → Nat) (Q : Exit → Act → World → Prop) (hI : ν0.I = I) (hQ : NP Q)
    (hl : ∀ L ∈ ls, ∀ a w, SatL lo (lo + sz) ν0 ρ0 B L a w → LQ Q L.ex a w) (a : Act) (w : World) (hs : SatL lo (lo + sz) ν0 ρ0 B ⟨.normal, fr, pc, hp⟩ a w) : c.wp P Q a w := by
  cases n with
  | zero => simp [codeX0] at h
  | succ n =>
    unfold codeX0 at h
    cases c <;> (try simp only at h)
    case skip =>
      cases h
      exact wp_skip (hl _ (by simp) a w hs)
    case ret =>
      cases h
      exact wp_ret (hl ⟨.ret, fr, pc, hp⟩ (by simp) a w hs)
    case exit id =>
      cases h
      exact wp_exit (hl ⟨.exit id, fr, pc, hp⟩ (by simp) a w hs)
    case seq x y =>
      split at h
      · rename_i l1 h1
        refine wp_seq ((ih n (by omega)).code h1 (partOf_seqL hp0) B ν0 ρ0 (Exit.then (Code.wp P y Q) Q) hI (fun ch a w hq => hQ ch a w hq) ?_ a w hs)
        intro L hL a' w' hs'
        obtain ⟨l2, h2, hsub⟩ := bindL_mem h L hL
        obtain ⟨ex, fr', pc', hp'⟩ := L
        cases ex with
        | normal => exact (ih n (by omega)).code h2 (partOf_seqR hp0) B ν0 ρ0 Q hI hQ (fun L' hL' => hl L' (hsub L' hL')) a' w' hs'
        | exit j => simp only [Option.some.injEq] at h2; subst h2; exact hl _ (hsub _ (by simp)) a' w' hs'
        | ret => simp only [Option.some.injEq] at h2; subst h2; exact hl _ (hsub _ (by simp)) a' w' hs'
        | bad => simp only [Option.some.injEq] at h2; subst h2; exact hl _ (hsub _ (by simp)) a' w' hs'
      · cases h
    case block id x =>
      split at h
      · rename_i l1 h1
        cases h
        refine wp_block ((ih n (by omega)).code h1 (partOf_block hp0) B ν0 ρ0 (Exit.inBlock id Q) hI (fun ch a w hq => hQ ch a w hq) ?_ a w hs)
        intro L hL a' w' hs'
        have := hl _ (List.mem_map.2 ⟨L, hL, rfl⟩) a' w'
        obtain ⟨ex, fr', pc', hp'⟩ := L
        cases ex with
        | normal => exact this hs'
        | exit j =>
          simp only at this
          show Exit.inBlock id Q (.exit j) a' w'
          unfold Exit.inBlock
          by_cases hj : j = id
          · subst hj
            simp only [Nat.beq_refl, if_true] at this
            simp only [if_true]
            exact this hs'
          · have hb : Nat.beq j id = false := by
              cases hq : Nat.beq j id
              · rfl
              · exact absurd (Nat.eq_of_beq_eq_true hq) hj
            rw [hb] at this
            simp only [hj, if_false]
            exact this hs'
        | ret => exact this hs'
        | bad => exact (this hs').elim
      · cases h
    case cond x y z =>
      split at h
      · rename_i e he
        obtain ⟨ν, ρ, hag, hpc, hfw⟩ := hs
        obtain ⟨hf, hw⟩ := hfw trivial
        have hev := hf.eval he
        simp only [SV.den] at hev
        split at h
        · rename_i hk
          have := SB.known_den hpc hk
          rw [this] at hev
          exact wp_cond_true hev ((ih n (by omega)).code h (partOf_condL hp0) B ν0 ρ0 Q hI hQ hl a w ⟨ν, ρ, hag, hpc, hfw⟩)
        · rename_i hk
          have := SB.known_den hpc hk
          rw [this] at hev
          exact wp_cond_false hev ((ih n (by omega)).code h (partOf_condR hp0) B ν0 ρ0 Q hI hQ hl a w ⟨ν, ρ, hag, hpc, hfw⟩)
        · split at h
          · rename_i as bs has hbs
            cases h
            cases hq : e.den ν
            · rw [hq] at hev
              exact wp_cond_false hev ((ih n (by omega)).code hbs (partOf_condR hp0) B ν0 ρ0 Q hI hQ (fun L hL => hl L (List.mem_append_right _ hL)) a w ⟨ν, ρ, hag, pcDen_asm hq hpc, fun _ => ⟨hf, hw⟩⟩)
            · rw [hq] at hev
              exact wp_cond_true hev ((ih n (by omega)).code has (partOf_condL hp0) B ν0 ρ0 Q hI hQ (fun L hL => hl L (List.mem_append_left _ hL)) a w ⟨ν, ρ, hag, pcDen_asm hq hpc, fun _ => ⟨hf, hw⟩⟩)
          · cases h
      · cases h
    case region rid ops dr =>
      cases dr with
      | false =>
        simp only at h
        refine wp_region ?_
        have := (ih n (by omega)).ops h B ν0 ρ0 Q hI hQ hl ⟨.normal, fr, pc, hp⟩ (by simp) a w hs
        rw [List.range_eq_range']
        exact this
      | true =>
        simp only at h
        split at h
        · rename_i hsel
          refine wp_region_any pr.mixed ?_
          obtain ⟨ν, ρ, hag, hpc, hfw⟩ := hs
          obtain ⟨hf, hw⟩ := hfw trivial
          have := (ih n (by omega)).draw h hsel B ν0 ρ0 Q hI hQ hl _ _ (by simp; exact ⟨rfl, rfl⟩) ⟨.normal, fr, pc, hp⟩ (by simp) a w.drew ⟨ν, ρ, hag, hpc, fun _ => ⟨hf, hw.drew⟩⟩
          simp only [List.toArray_replicate] at this
          exact this
        · cases h
    case loop x =>
      split at h
      · rename_i r hor
        split at h
        · rename_i hc
          simp only [Bool.and_eq_true] at hc
          subst h
          obtain ⟨ν, ρ, hag, hpc, hfw⟩ := hs
          obtain ⟨hf, hw⟩ := hfw trivial
          have i1 : Nat.ble lo (lo + (it * 2 ^ 20 + site x * 256 + 255) * (sz / K0)) = true := Nat.ble_eq_true_of_le (by omega)
          refine oo.loop hp0 hor (sz / K0) (Nat.le_of_ble_eq_true hc.2) B ν ρ Q hQ (hag.I.trans hI) ?_ a w hpc hf hw
          intro L hL a' w' hs'
          obtain ⟨ν', ρ', hag', hpc', hfw'⟩ := hs'
          exact hl L hL a' w' ⟨ν', ρ', hag.trans (hag'.mono i1 hc.1), hpc', hfw'⟩
        · cases h
      · have := (ih n (by omega)).loops h (partOf_loop hp0) B ν0 ρ0 Q hI hQ hl ⟨.normal, fr, pc, hp⟩ (by simp) a w hs
        exact wp_loop_rounds _ this
    all_goals (cases h)

theorem ok_loops {n : Nat} (ih : ∀ m, m < n → AllOK P O I m) {lo sz f it k : Nat} {c : Code} {ls ls' : List Leaf} (h : loopX0 P O lo sz f n it k c ls = some ls') (hp0 : PartOf P f c) (B : Base) (ν0 : Env G) (ρ0 : Nat → Nat) (Q : Exit → Act → World → Prop) (hI : ν0.I = I) (hQ : NP Q)
    (hl : ∀ L ∈ ls', ∀ a w, SatL lo (lo + sz) ν0 ρ0 B L a w → LQ Q L.ex a w) : ∀ L ∈ ls, ∀ a w, SatL lo (lo + sz) ν0 ρ0 B L a w → RQ (Code.rounds P c Q k) Q L.ex a w := by
  cases n with
  | zero => simp [loopX0] at h
  | succ n =>
    unfold loopX0 at h
    split at h
    · rename_i hno
      cases h
      intro L hL a w hs
      have h1 := hl L hL a w hs
      have h2 := List.find?_eq_none.1 hno L hL
      cases hex : L.ex with
      | normal => rw [hex] at h2; simp at h2
      | exit i => rw [hex] at h1; exact h1
      | ret => rw [hex] at h1; exact h1
      | bad => rw [hex] at h1; exact h1
    · split at h
      · cases h
      · rename_i k
        split at h
        · rename_i l1 h1
          have h2 := (ih n (by omega)).loops h hp0 B ν0 ρ0 Q hI hQ hl
          intro L hL a w hs
          obtain ⟨l2, h3, hsub⟩ := bindL_mem h1 L hL
          obtain ⟨ex, fr, pc, hp⟩ := L
          cases ex with
          | normal =>
            show Code.rounds P c Q (k + 1) a w
            rw [rounds_succ]
            refine (ih n (by omega)).code h3 hp0 B ν0 ρ0 (Exit.then (Code.rounds P c Q k) Q) hI (fun ch a w hq => hQ ch a w hq) ?_ a w hs
            intro L' hL' a' w' hs'
            have h4 := h2 L' (hsub L' hL') a' w' hs'
            cases hex : L'.ex with
            | normal => rw [hex] at h4; exact h4
            | exit i => rw [hex] at h4; exact h4
            | ret => rw [hex] at h4; exact h4
            | bad => rw [hex] at h4; exact h4
          | exit j => simp only [Option.some.injEq] at h3; subst h3; exact h2 _ (hsub _ (by simp)) a w hs
          | ret => simp only [Option.some.injEq] at h3; subst h3; exact h2 _ (hsub _ (by simp)) a w hs
          | bad => simp only [Option.some.injEq] at h3; subst h3; exact h2 _ (hsub _ (by simp)) a w hs
        · cases h

theorem all_ok (pr : PR P) (oo : OOK P O I) (n : Nat) : AllOK P O I n := by
  induction n using Nat.strongRecOn with
  | _ n ih =>
    exact { code := fun h hp0 B ν0 ρ0 Q hI hQ hl a w hs => ok_code pr oo ih h hp0 B ν0 ρ0 Q hI hQ hl a w hs
            loops := fun h hp0 B ν0 ρ0 Q hI hQ hl => ok_loops ih h hp0 B ν0 ρ0 Q hI hQ hl
            ops := fun h B ν0 ρ0 Q hI hQ hl => ok_ops ih h B ν0 ρ0 Q hI hQ hl
            step := fun h B ν0 ρ0 Q K hI hQ hl => ok_step pr oo ih h B ν0 ρ0 Q K hI hQ hl
            call := fun h B ν ρ w R hI hpc hw hc => ok_call oo ih h B ν ρ w R hI hpc hw hc
            draw := fun h hsel B ν0 ρ0 Q hI hQ hl => ok_draw ih h hsel B ν0 ρ0 Q hI hQ hl
            level := fun h => ok_level ih h
            side := fun h => ok_side ih h }
end
#print axioms all_ok
end Go.Sy
