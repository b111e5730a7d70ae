import Derived.Test.YtjcphbcjnjeccaaSy9
import Derived.LoopN
set_option linter.unusedVariables false
set_option linter.unusedSimpArgs false
namespace Go.Sy
open Go

def NP (Q : Exit → Act → World → Prop) : Prop := ∀ ch a w, Q (.panic ch) a w → False

/-- A piece of a piece of code. -/
inductive Part : Code → Code → Prop
  | refl (c : Code) : Part c c
  | seqL {a b c : Code} : Part (.seq a b) c → Part a c
  | seqR {a b c : Code} : Part (.seq a b) c → Part b c
  | block {i : Nat} {a c : Code} : Part (.block i a) c → Part a c
  | loop {a c : Code} : Part (.loop a) c → Part a c
  | condL {x : Operand} {a b c : Code} : Part (.cond x a b) c → Part a c
  | condR {x : Operand} {a b c : Code} : Part (.cond x a b) c → Part b c

def PartOf (P : Program) (f : Nat) (c : Code) : Prop := ∃ (fn : Func) (body : Code), P.funcs[f]? = some fn ∧ fn.body = some body ∧ Part c body

/-- What is owed of an oracle. -/
structure OOK {G : Type} (P : Program) (O : Orac) (I : In G) : Prop where
  call : ∀ {f lo : Nat} {args : List SV} {pc : PC} {hp : Heap} {cs : List CLeaf}, O.call f lo args pc hp = some (some cs) → ∀ (sz : Nat), 64 ≤ sz → ∀ (B : Base) (ν : Env G) (ρ : Nat → Nat) (w : World) (R : Ending → World → Prop), ν.I = I → pcDen ν pc → HW B ν ρ hp w →
    (∀ c ∈ cs, ∀ ν' ρ' w', Agree lo (lo + sz) ν ν' ρ ρ' → pcDen ν' c.pc → c.bad = false ∧ (HW B ν' ρ' c.hp w' → R (.returned (c.v.den ν' ρ')) w')) → Calls P f (denL ν ρ args).toArray w R
  loop : ∀ {f nm : Nat} {a : Code} {fr : List SV} {pc : PC} {hp : Heap} {ls : List Leaf}, PartOf P f (.loop a) → O.loop f (site a) nm fr pc hp = some (some ls) → ∀ (sub : Nat), 64 ≤ sub → ∀ (B : Base) (ν : Env G) (ρ : Nat → Nat) (Q : Exit → Act → World → Prop), NP Q → ν.I = I →
    (∀ L ∈ ls, ∀ a w, SatL nm (nm + sub) ν ρ B L a w → LQ Q L.ex a w) → ∀ act w, pcDen ν pc → FR ν ρ fr act → HW B ν ρ hp w → (Code.loop a).wp P Q act w
  op : ∀ {nm : Nat} {fr : List SV} {pc : PC} {hp : Heap} {o : Oper} {outs : List (PC × ORes)}, O.op nm fr pc hp o = some outs → ∀ (B : Base) (ν : Env G) (ρ : Nat → Nat) (a : Act) (w : World), ν.I = I → pureOp o.op = false → FR ν ρ fr a → pcDen ν pc → HW B ν ρ hp w → OutsOK P B o a w hp nm ν ρ outs

theorem opO_pure {P : Program} {O : Orac} {nm : Nat} {fr : List SV} {pc : PC} {hp : Heap} {o : Oper} (h : pureOp o.op = true) : opO P O nm fr pc hp o = opX P nm fr pc hp o := by
  unfold opO; rw [if_pos h]
theorem opO_sound {P : Program} {G : Type} {O : Orac} {I : In G} {B : Base} {ν : Env G} {ρ : Nat → Nat} {hp : Heap} {w : World} (pr : PR P) (oo : OOK P O I) (hI : ν.I = I) {nm : Nat} {fr : List SV} {pc : PC} {o : Oper} {a : Act} {outs : List (PC × ORes)} (hx : opO P O nm fr pc hp o = some outs) (hf : FR ν ρ fr a) (hpc : pcDen ν pc) (hw : HW B ν ρ hp w) :
    OutsOK P B o a w hp nm ν ρ outs := by
  unfold opO at hx
  split at hx
  · exact opX_sound pr hx hf hpc hw
  · rename_i hp'
    split at hx
    · rename_i r hr
      cases hx
      exact oo.op hr B ν ρ a w hI (by simpa using hp') hf hpc hw
    · exact opX_sound pr hx hf hpc hw

structure AllOK {G : Type} (P : Program) (O : Orac) (I : In G) (n : Nat) : Prop where
  code : ∀ {lo sz f it : Nat} {c : Code} {fr : List SV} {pc : PC} {hp : Heap} {ls : List Leaf}, codeX0 P O lo sz f n it c fr pc hp = some ls → PartOf P f c → ∀ (B : Base) (ν0 : Env G) (ρ0 : Nat → Nat) (Q : Exit → Act → World → Prop), ν0.I = I → NP Q →
    (∀ L ∈ ls, ∀ a w, SatL lo (lo + sz) ν0 ρ0 B L a w → LQ Q L.ex a w) → ∀ a w, SatL lo (lo + sz) ν0 ρ0 B ⟨.normal, fr, pc, hp⟩ a w → c.wp P Q a w
  loops : ∀ {lo sz f it k : Nat} {c : Code} {ls ls' : List Leaf}, loopX0 P O lo sz f n it k c ls = some ls' → PartOf P f c → ∀ (B : Base) (ν0 : Env G) (ρ0 : Nat → Nat) (Q : Exit → Act → World → Prop), ν0.I = I → NP Q →
    (∀ L ∈ ls', ∀ a w, SatL lo (lo + sz) ν0 ρ0 B L a w → LQ Q L.ex a w) → ∀ L ∈ ls, ∀ a w, SatL lo (lo + sz) ν0 ρ0 B L a w → RQ (Code.rounds P c Q k) Q L.ex a w
  ops : ∀ {lo sz f it rid : Nat} {ops : Array Oper} {j k : Nat} {ls ls' : List Leaf}, opsX0 P O lo sz f n it rid ops j k ls = some ls' → ∀ (B : Base) (ν0 : Env G) (ρ0 : Nat → Nat) (Q : Exit → Act → World → Prop), ν0.I = I → NP Q →
    (∀ L ∈ ls', ∀ a w, SatL lo (lo + sz) ν0 ρ0 B L a w → LQ Q L.ex a w) → ∀ L ∈ ls, ∀ a w, SatL lo (lo + sz) ν0 ρ0 B L a w → RQ (wpOps P ops Q (List.range' j k)) Q L.ex a w
  step : ∀ {lo sz f it rid : Nat} {ops : Array Oper} {j : Nat} {ls ls' : List Leaf}, stepX0 P O lo sz f n it rid ops j ls = some ls' → ∀ (B : Base) (ν0 : Env G) (ρ0 : Nat → Nat) (Q : Exit → Act → World → Prop) (K : Act → World → Prop), ν0.I = I → NP Q →
    (∀ L ∈ ls', ∀ a w, SatL lo (lo + sz) ν0 ρ0 B L a w → RQ K Q L.ex a w) → ∀ L ∈ ls, ∀ a w, SatL lo (lo + sz) ν0 ρ0 B L a w → RQ (wpOp P ops Q j K) Q L.ex a w
  call : ∀ {lo sz f : Nat} {args : List SV} {pc : PC} {hp : Heap} {cs : List CLeaf}, callX0 P O lo sz n f args pc hp = some cs → ∀ (B : Base) (ν : Env G) (ρ : Nat → Nat) (w : World) (R : Ending → World → Prop), ν.I = I → pcDen ν pc → HW B ν ρ hp w →
    (∀ c ∈ cs, ∀ ν' ρ' w', Agree lo (lo + sz) ν ν' ρ ρ' → pcDen ν' c.pc → c.bad = false ∧ (HW B ν' ρ' c.hp w' → R (.returned (c.v.den ν' ρ')) w')) → Calls P f (denL ν ρ args).toArray w R
  draw : ∀ {lo sz f it rid : Nat} {ops : Array Oper} {k : Nat} {F : Front} {t : List Leaf}, drawX0 P O lo sz f n it rid ops k F = some t → Region.noSelect ops = true → ∀ (B : Base) (ν0 : Env G) (ρ0 : Nat → Nat) (Q : Exit → Act → World → Prop), ν0.I = I → NP Q →
    (∀ L ∈ t, ∀ a w, SatL lo (lo + sz) ν0 ρ0 B L a w → LQ Q L.ex a w) → ∀ l ls, (l, ls) ∈ F → ∀ L ∈ ls, ∀ a w, SatL lo (lo + sz) ν0 ρ0 B L a w → RQ (wpAny P .any ops Q k l.toArray) Q L.ex a w
  level : ∀ {lo sz f it rid : Nat} {ops : Array Oper} {F G1 G' : Front}, levelX0 P O lo sz f n it rid ops F G1 = some G' → (∀ x ∈ G1, CovF x G') ∧ (Region.noSelect ops = true → ∀ (B : Base) (ν0 : Env G) (ρ0 : Nat → Nat) (Q : Exit → Act → World → Prop) (k : Nat), ν0.I = I → NP Q →
    (∀ l ls, (l, ls) ∈ G' → ∀ L ∈ ls, ∀ a w, SatL lo (lo + sz) ν0 ρ0 B L a w → RQ (wpAny P .any ops Q k l.toArray) Q L.ex a w) → ∀ l ls, (l, ls) ∈ F → ∀ L ∈ ls, ∀ a w, SatL lo (lo + sz) ν0 ρ0 B L a w → RQ (wpAny P .any ops Q (k + 1) l.toArray) Q L.ex a w)
  side : ∀ {lo sz f it rid : Nat} {ops : Array Oper} {l : List Bool} {t : List Leaf} {is : List Nat} {G1 G' : Front}, sideX0 P O lo sz f n it rid ops l t is G1 = some G' → (∀ x ∈ G1, CovF x G') ∧ ∀ i ∈ is, ∃ m t', m < n ∧ stepX0 P O lo sz f m it rid ops i t = some t' ∧ CovF (l.set i true, t') G'

section
variable {P : Program} {G : Type} {O : Orac} {I : In G}

theorem ok_side {n : Nat} (ih : ∀ m, m < n → AllOK P O I m) : ∀ {lo sz f it rid : Nat} {ops : Array Oper} {l : List Bool} {t : List Leaf} {is : List Nat} {G1 G' : Front}, sideX0 P O lo sz f n it rid ops l t is G1 = some G' → (∀ x ∈ G1, CovF x G') ∧ ∀ i ∈ is, ∃ m t', m < n ∧ stepX0 P O lo sz f m it rid ops i t = some t' ∧ CovF (l.set i true, t') G' := by
  intro lo sz f it rid ops l t is G1 G' h
  cases n with
  | zero => simp [sideX0] at h
  | succ n =>
    unfold sideX0 at h
    cases is with
    | nil => simp only [Option.some.injEq] at h; subst h; exact ⟨fun _ h => CovF.of_mem h, fun i hi => by cases hi⟩
    | cons i r =>
      simp only at h
      split at h
      · cases h
      · rename_i t' ht
        split at h
        · cases h
        · rename_i G2 hm
          obtain ⟨m1, m2⟩ := merge_mem hm
          obtain ⟨s1, s2⟩ := (ih n (by omega)).side h
          refine ⟨fun x hx => (m2 x hx).trans s1, fun j hj => ?_⟩
          rcases List.mem_cons.1 hj with rfl | hj
          · exact ⟨n, t', by omega, ht, m1.trans s1⟩
          · obtain ⟨m, t'', hm, h1, h2⟩ := s2 j hj
            exact ⟨m, t'', by omega, h1, h2⟩

theorem LQ_of_RQ {Q : Exit → Act → World → Prop} {ex : SEx} {a : Act} {w : World} : LQ Q ex a w ↔ RQ (Q .normal) Q ex a w := by cases ex <;> exact Iff.rfl

theorem ok_ops {n : Nat} (ih : ∀ m, m < n → AllOK P O I m) {lo sz f it rid : Nat} {ops : Array Oper} {j k : Nat} {ls ls' : List Leaf} (h : opsX0 P O lo sz f n it rid ops j k ls = some ls') (B : Base) (ν0 : Env G) (ρ0 : Nat → Nat) (Q : Exit → Act → World → Prop) (hI : ν0.I = I) (hQ : NP Q)
    (hl : ∀ L ∈ ls', ∀ a w, SatL lo (lo + sz) ν0 ρ0 B L a w → LQ Q L.ex a w) : ∀ L ∈ ls, ∀ a w, SatL lo (lo + sz) ν0 ρ0 B L a w → RQ (wpOps P ops Q (List.range' j k)) Q L.ex a w := by
  cases n with
  | zero => simp [opsX0] at h
  | succ n =>
    unfold opsX0 at h
    cases k with
    | zero =>
      simp only [Option.some.injEq] at h
      subst h
      intro L hL a w hs
      have := LQ_of_RQ.1 (hl L hL a w hs)
      simpa [wpOps] using this
    | succ k =>
      simp only at h
      split at h
      · rename_i l1 h1
        have h2 := (ih n (by omega)).ops h B ν0 ρ0 Q hI hQ hl
        have h3 := (ih n (by omega)).step h1 B ν0 ρ0 Q (wpOps P ops Q (List.range' (j + 1) k)) hI hQ h2
        intro L hL a w hs
        have h4 := h3 L hL a w hs
        rw [List.range'_succ]
        have he : wpOps P ops Q (j :: List.range' (j + 1) k) = fun a w => wpOp P ops Q j (wpOps P ops Q (List.range' (j + 1) k)) a w := by
          funext a w; exact wpOps_cons j _ a w
        rw [he]
        exact h4
      · cases h

theorem pure_yields {nm : Nat} {fr : List SV} {pc : PC} {hp : Heap} {o : Oper} {a : Act} {ν : Env G} {ρ : Nat → Nat} {outs : List (PC × ORes)} (hx : opX P nm fr pc hp o = some outs) (hp' : pureOp o.op = true) (hf : FR ν ρ fr a) (hpc : pcDen ν pc) :
    outs = [([], .bad)] ∨ ∃ v, outs = [([], .val v hp)] ∧ ∀ w, (execOp a.eval o).run P w = .ok (.value (v.den ν ρ)) w := by
  obtain ⟨dst, op, type, pos, after, guard⟩ := o
  unfold opX at hx
  cases op <;> simp only [pureOp, Bool.false_eq_true] at hp' <;> simp only at hx
  case move x =>
    simp only [Option.map_eq_some_iff] at hx
    obtain ⟨v, hv, rfl⟩ := hx
    exact .inr ⟨v, rfl, fun w => by simp [execOp, hf.eval hv]⟩
  case assign x =>
    simp only [Option.map_eq_some_iff] at hx
    obtain ⟨v, hv, rfl⟩ := hx
    exact .inr ⟨v, rfl, fun w => by simp [execOp, hf.eval hv]⟩
  case nilCheck x =>
    split at hx
    · rename_i b off hv
      cases hx
      exact .inr ⟨_, rfl, fun w => by simp [execOp, hf.eval hv, SV.den]⟩
    · rename_i f p c hv
      cases hx
      exact .inr ⟨_, rfl, fun w => by simp [execOp, hf.eval hv, SV.den]⟩
    · cases hx; exact .inl rfl
    · cases hx; exact .inl rfl
    · cases hx
  case unOp op t x =>
    split at hx
    · rename_i u hu
      simp only [Option.map_eq_some_iff] at hx
      obtain ⟨v, hv, rfl⟩ := hx
      exact .inr ⟨v, rfl, fun w => by simp [execOp, hf.eval hu, unX_run hv]⟩
    · cases hx
  case makeFunc fn first caps =>
    split at hx
    · rename_i f u c hu hc
      cases hx
      refine .inr ⟨_, rfl, fun w => ?_⟩
      simp only [execOp, Instr.makeFunc, evalL_toArray hf hu, evalL_toArray hf hc, SV.den, Sem.run_bind, Sem.run_pure, Result.andThen_ok]
    · cases hx
  case fieldAddr s x f =>
    split at hx
    · rename_i b off fs hv hs
      split at hx
      · rename_i g hg
        split at hx
        · rename_i n hn
          split at hx
          · rename_i h1
            simp only [Bool.and_eq_true] at h1
            have h0 := SI.nn_den hpc off h1.2
            have h1 := Nat.le_of_ble_eq_true h1.1
            cases hx
            refine .inr ⟨_, rfl, fun w => ?_⟩
            have hn0 : n ≠ 0 := by omega
            have e : (off.den ν).toNat + g.offset = (off.den ν + Int.ofNat g.offset).toNat := by
              have : Int.ofNat g.offset = (g.offset : Int) := rfl
              rw [this]; omega
            simp [execOp, hf.eval hv, SV.den, SI.den, SI.mkAdd_den, Instr.fieldAt, run_underlying hs, hg, Instr.sureAddr, fieldPlace, sizeT_run hn, hn0, add_none, e]
          · cases hx
        · cases hx
      · cases hx
    · cases hx
  case extract x i =>
    split at hx
    · rename_i l hl
      simp only [Option.map_eq_some_iff] at hx
      obtain ⟨v, hv, rfl⟩ := hx
      exact .inr ⟨v, rfl, fun w => by simp [execOp, hf.eval hl, SV.den, Instr.extract, denL_get, hv]⟩
    · cases hx

theorem ok_step (pr : PR P) (oo : OOK P O I) {n : Nat} (ih : ∀ m, m < n → AllOK P O I m) {lo sz f it rid : Nat} {ops : Array Oper} {j : Nat} {ls ls' : List Leaf} (h : stepX0 P O lo sz f n it rid ops j ls = some ls') (B : Base) (ν0 : Env G) (ρ0 : Nat → Nat) (Q : Exit → Act → World → Prop) (K : Act → World → Prop) (hI : ν0.I = I) (hQ : NP Q)
    (hl : ∀ L ∈ ls', ∀ a w, SatL lo (lo + sz) ν0 ρ0 B L a w → RQ K Q L.ex a w) : ∀ L ∈ ls, ∀ a w, SatL lo (lo + sz) ν0 ρ0 B L a w → RQ (wpOp P ops Q j K) Q L.ex a w := by
  cases n with
  | zero => simp [stepX0] at h
  | succ n =>
    unfold stepX0 at h
    split at h
    · cases h
    · rename_i o ho
      intro L hL a w hs
      obtain ⟨l1, h1, hsub⟩ := bindL_mem h L hL
      obtain ⟨ex, fr, pc, hp⟩ := L
      cases ex with
      | exit i => simp only [Option.some.injEq] at h1; subst h1; exact hl _ (hsub _ (by simp)) a w hs
      | ret => simp only [Option.some.injEq] at h1; subst h1; exact hl _ (hsub _ (by simp)) a w hs
      | bad => simp only [Option.some.injEq] at h1; subst h1; exact hl _ (hsub _ (by simp)) a w hs
      | normal =>
        simp only at h1
        obtain ⟨ν, ρ, hag, hpc, hfw⟩ := hs
        obtain ⟨hf, hw⟩ := hfw trivial
        show wpOp P ops Q j K a w
        unfold wpOp
        simp only [ho]
        unfold bindO at h1
        split at h1
        · cases h1
        · rename_i ws hws
          obtain ⟨x, hx, hxp, hwant⟩ := wantX_sound hws hf hpc
          obtain ⟨l2, h2, hsub2⟩ := bindL_mem h1 x hx
          skip
          have hpc2 : pcDen ν (x.1 ++ pc) := pcDen_append hxp hpc
          cases hb : x.2 with
          | false =>
            rw [hb] at h2 hwant
            simp only [Bool.false_eq_true, if_false, Option.some.injEq] at h2
            subst h2
            rw [hwant]
            simp only [Bool.false_eq_true, if_false]
            exact hl ⟨.normal, fput fr o.dst (.tup []), x.1 ++ pc, hp⟩ (hsub _ (hsub2 _ (by simp))) _ w ⟨ν, ρ, hag, hpc2, fun _ => ⟨hf.put o.dst (.tup []), hw⟩⟩
          | true =>
            rw [hb] at h2 hwant
            rw [hwant]
            simp only [if_true] at h2 ⊢
            left
            generalize hnm : lo + (it * 2 ^ 20 + rid * 256 + j) * (sz / K0) = nm at h2
            generalize hsb : sz / K0 = sub at h2
            split at h2
            · rename_i hint
              simp only [Bool.and_eq_true] at hint
              have i1 : Nat.ble lo nm = true := Nat.ble_eq_true_of_le (by omega)
              have i2 := hint.1
              have i3 : Nat.ble (nm + 1) (lo + sz) = true := Nat.ble_eq_true_of_le (by have := Nat.le_of_ble_eq_true hint.1; have := Nat.le_of_ble_eq_true hint.2; omega)
              split at h2
              · cases h2
              · rename_i outs houts
                obtain ⟨r, hr, ν', ρ', hag', hmk, hpr, hout⟩ := opO_sound pr oo (hag.I.trans hI) houts hf hpc2 hw
                obtain ⟨l3, h3, hsub3⟩ := bindL_mem h2 r hr
                have hag1 : Agree lo (lo + sz) ν0 ν' ρ0 ρ' := hag.trans (hag'.mono i1 i3)
                obtain ⟨rp, ro⟩ := r
                simp only at hpr hout h3
                cases ro with
                | fail => cases h3
                | val v hp' =>
                  simp only at h3 hout
                  obtain ⟨w', hrun, hw'⟩ := hout
                  have fin : FR ν' ρ' fr a → pcDen ν' (rp ++ (x.1 ++ pc)) → [(⟨.normal, fput fr o.dst v, rp ++ (x.1 ++ pc), hp'⟩ : Leaf)] = l3 → o.wp P a w K Q := by
                    intro hf' hpc' hl3
                    unfold Oper.wp
                    rw [hrun, Oper.upon_value]
                    refine hl ⟨.normal, fput fr o.dst v, rp ++ (x.1 ++ pc), hp'⟩ (hsub _ (hsub2 _ (hsub3 _ (by rw [← hl3]; simp)))) _ w' ⟨ν', ρ', hag1, hpc', fun _ => ⟨hf'.put o.dst v, hw'⟩⟩
                  have hpr2 : pcDen ν (rp ++ (x.1 ++ pc)) := pcDen_append hpr hpc2
                  split at h3
                  · split at h3
                    · rename_i hav2
                      simp only [Bool.and_eq_true] at hav2
                      refine fin (hf.agree hag' hav2.1) (pcDen_agree hag' hav2.2 hpr2) (Option.some.inj h3)
                    · cases h3
                  · rename_i hnm
                    obtain ⟨rfl, rfl⟩ := hmk (by simpa using hnm)
                    exact fin hf hpr2 (Option.some.inj h3)
                | skip hp' =>
                  simp only at h3 hout
                  split at h3
                  · cases h3
                  · rename_i hnm
                    obtain ⟨rfl, rfl⟩ := hmk (by simpa using hnm)
                    obtain ⟨w', hrun, hw'⟩ := hout
                    unfold Oper.wp
                    rw [hrun, Oper.upon_skip]
                    refine hl ⟨.normal, fput fr o.dst (.tup []), rp ++ (x.1 ++ pc), hp'⟩ (hsub _ (hsub2 _ (hsub3 _ (by rw [← Option.some.inj h3]; simp)))) _ w' ⟨ν', ρ', hag1, pcDen_append hpr hpc2, fun _ => ⟨hf.put o.dst (.tup []), hw'⟩⟩
                | bad =>
                  simp only at h3
                  have hpr2 : pcDen ν (rp ++ (x.1 ++ pc)) := pcDen_append hpr hpc2
                  have fin : [(⟨.bad, [], rp ++ (x.1 ++ pc), []⟩ : Leaf)] = l3 → o.wp P a w K Q := by
                    intro hl3
                    exact (hl ⟨.bad, [], rp ++ (x.1 ++ pc), []⟩ (hsub _ (hsub2 _ (hsub3 _ (by rw [← hl3]; simp)))) a w ⟨ν, ρ, hag, hpr2, fun h => h.elim⟩).elim
                  split at h3
                  · split at h3
                    · exact fin (Option.some.inj h3)
                    · cases h3
                  · exact fin (Option.some.inj h3)
                | call g args =>
                  simp only at h3 hout
                  split at h3
                  · cases h3
                  · rename_i hnm
                    obtain ⟨rfl, rfl⟩ := hmk (by simpa using hnm)
                    obtain ⟨hrun, hw'⟩ := hout
                    split at h3
                    · rename_i hav2
                      split at h3
                      · cases h3
                      · rename_i cs hcs
                        have hc := (ih n (by omega)).call hcs B ν' ρ' w
                        unfold Oper.wp
                        rw [hrun, Oper.upon_enter]
                        refine hc _ (hag1.I.trans hI) (pcDen_append hpr hpc2) hw' ?_
                        intro c hcm ν2 ρ2 w2 hag2 hpc3
                        have hag3 : Agree lo (lo + sz) ν0 ν2 ρ0 ρ2 := hag1.trans (hag2.mono i1 i2)
                        have hmem := hsub _ (hsub2 _ (hsub3 (if c.bad then ⟨.bad, [], c.pc, []⟩ else ⟨.normal, fput fr o.dst c.v, c.pc, c.hp⟩ : Leaf) (by rw [← Option.some.inj h3]; exact List.mem_map.2 ⟨c, hcm, rfl⟩)))
                        cases hcb : c.bad with
                        | true =>
                          rw [hcb] at hmem
                          exact (hl _ hmem a w ⟨ν2, ρ2, hag3, hpc3, fun h => h.elim⟩).elim
                        | false =>
                          rw [hcb] at hmem
                          refine ⟨rfl, fun hw2 => ?_⟩
                          have hf2 : FR ν2 ρ2 fr a := hf.agree hag2 hav2
                          exact hl _ hmem _ w2 ⟨ν2, ρ2, hag3, hpc3, fun _ => ⟨hf2.put o.dst c.v, hw2⟩⟩
                    · cases h3
            · cases h2
end
end Go.Sy
