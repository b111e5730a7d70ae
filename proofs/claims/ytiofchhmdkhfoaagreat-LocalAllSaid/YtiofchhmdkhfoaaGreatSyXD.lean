/- A drawn region's head, walked in the text's order alone: what it says. -/
import Derived.Test.YtiofchhmdkhfoaaGreatSyXC
import Derived.Below
import Derived.ProofKit
import Derived.OpenShut
import Derived.JoinedOf
import Derived.Carry
import Derived.Lib.SmallJoins
import Derived.Deep.LoopGhost
set_option linter.unusedVariables false
set_option linter.unusedSimpArgs false

section
namespace Go.Sy
open Go

section
variable {P : Program} {G : Type} {O : Orac} {I : In G}
theorem kUpon_of_wp {C : World → Prop} {o : Oper} {a : Act} {w : World} {v : Value} {K : Act → World → Prop} (h : o.wp P a w K (fun _ _ _ => False)) (hK : ∀ u w', K (a.put o.dst u) w' → u = v ∧ C w') (hdef : ∀ x w', K (({ a with defers := x :: a.defers } : Act).put o.dst undef) w' → False) : kUpon P C v ((execOp a.eval o).run P w) := by
  have hlet : LetsOut (fun _ _ _ => False) → False := fun ⟨_, _, h⟩ => h
  unfold Oper.wp at h
  generalize (execOp a.eval o).run P w = r at *
  cases r with
  | ok n w' =>
    cases n <;> simp only [Oper.upon] at h <;> simp only [kUpon]
    case value u => exact hK u w' h
    case skip => exact ⟨(hK undef w' h).1.symm, (hK undef w' h).2⟩
    case defer x => exact hdef x w' h
    case enter f args =>
      refine Calls.mono h fun e w'' he => ?_
      cases e with
      | returned u => exact ⟨by rw [(hK u w'' he).1], (hK u w'' he).2⟩
      | panicked c => exact he.elim
      | outgrown => exact (hlet he).elim
    case row row args => exact Rows.mono h fun u w'' he => hK u w'' he
  | halt x w' => cases x <;> simp only [Oper.upon] at h

theorem subL_sub : ∀ {h0 hp : Heap}, subL h0 hp = true → h0.Sublist hp
  | [], _, _ => List.nil_sublist _
  | _ :: _, [], h => by simp [subL] at h
  | (n, b) :: r, (m, c) :: s, h => by
    unfold subL at h
    split at h
    · rename_i hn
      split at h
      · rename_i hb
        have e1 := Nat.eq_of_beq_eq_true hn
        have e2 := SBk.beq_eq hb
        subst e1 e2
        exact (subL_sub h).cons_cons _
      · cases h
    · exact (subL_sub h).cons _

theorem HW.subl {B : Base} {ν : Env G} {ρ : Nat → Nat} {hp hq : Heap} {w : World} (h : HW B ν ρ hp w) (hs : hq.Sublist hp) : HW B ν ρ hq w := by
  obtain ⟨F, h1, h2, h3⟩ := h.foot
  exact ⟨h.os, h.tape, h.output, h.size, h.kept, (hs.map _).nodup h.nd, F, fun n b hm => h1 n b (hs.subset hm), fun n b k hm => h2 n b k (hs.subset hm), fun n b m c k hm hm' => h3 n b m c k (hs.subset hm) (hs.subset hm')⟩
theorem HW.back_agree {B : Base} {lo hi : Nat} {ν ν' : Env G} {ρ ρ' : Nat → Nat} {hp : Heap} {w : World} (hag : Agree lo hi ν ν' ρ ρ') (hv : hav lo hi hp = true) (h : HW B ν' ρ' hp w) : HW B ν ρ hp w := by
  have hs : Agree lo hi ν' ν ρ' ρ := ⟨hag.I.symm, fun n hn => (hag.g n hn).symm, fun n hn => (hag.i n hn).symm, fun n hn => (hag.b n hn).symm, fun n hn => (hag.v n hn).symm, fun n hn => (hag.l n hn).symm, fun n hn => (hag.e n hn).symm, fun n hn => (hag.r n hn).symm⟩
  obtain ⟨F, h1, h2, h3⟩ := h.foot
  exact ⟨h.os, h.tape, h.output, h.size, h.kept, h.nd, F, fun n b hm => BlkDen.agree hs (hav_mem hv n b hm).2 (hav_mem hv n b hm).1 (h1 n b hm), h2, h3⟩

theorem head_ok (pr : PR P) (oo : OOK P O I) {n : Nat} (ih : ∀ m, m < n → AllOK P O I m) {lo sz f it rid b0 b1 : Nat} {ops : Array Oper} {h0 : Heap} {pc : PC} (e0 : b0 = lo + (it * 2 ^ 20 + rid * 256) * (sz / K0)) (e1 : b1 = b0 + 256 * (sz / K0)) (hh : hav b0 b1 h0 = true)
    {B : Base} {ν : Env G} {ρ : Nat → Nat} (hI : ν.I = I) (hpc : pcDen ν pc) {Lq : Act → Prop} {fr' : List SV} (hLq : ∀ a', FR ν ρ fr' a' → Lq a') :
    ∀ (m j : Nat) (fr : List SV) (a : Act), j + m ≤ 256 → headK P (opX P 0) (stepX0 P O lo sz f n it rid ops) b0 b1 h0 pc ops m j fr = some fr' → FR ν ρ fr a → wpK P ops (fun w => HW B ν ρ h0 w) Lq m j a
  | 0, j, fr, a, _, h, hf => by simp only [headK, Option.some.injEq] at h; subst h; exact hLq a hf
  | m + 1, j, fr, a, hj, h, hf => by
    unfold headK at h
    split at h
    · cases h
    rename_i o ho
    split at h
    · cases h
    rename_i hg
    split at h
    · cases h
    rename_i v hv
    show kOp P ops _ j _ a
    unfold kOp
    simp only [ho]
    refine ⟨v.den ν ρ, .inl ⟨by simp [Region.wanted, hg], fun w hC => ?_⟩, head_ok pr oo ih e0 e1 hh hI hpc hLq m (j + 1) _ _ (by omega) h (hf.put o.dst v)⟩
    unfold valK at hv
    split at hv
    · rename_i hp
      split at hv
      · rename_i u x hx
        cases hv
        rcases pure_yields hx hp hf hpc with h1 | ⟨v', h1, h2⟩
        · simp at h1
        · simp only [List.cons.injEq, Prod.mk.injEq, ORes.val.injEq, and_true, true_and] at h1
          obtain ⟨rfl, -⟩ := h1
          rw [h2 w]
          exact ⟨rfl, hC⟩
      · cases hv
    · split at hv
      · rename_i u hl
        cases hv
        unfold loadK at hl
        split at hl
        case h_2 => cases hl
        rename_i t x hop
        split at hl
        case h_2 => cases hl
        rename_i b off hx
        split at hl
        case h_2 => cases hl
        split at hl
        case h_2 => cases hl
        rename_i v' hlx
        cases hl
        obtain ⟨y, hy, _, hy2⟩ := loadX_run (t := t) (p := .ptr b off) hC hpc hlx
        simp only [List.mem_singleton] at hy
        subst hy
        have h3 := hy2 _ rfl
        have : (execOp a.eval o).run P w = .ok (.value (v.den ν ρ)) w := by
          simp only [execOp, hop, hf.eval hx]
          simp [h3]
        rw [this]
        exact ⟨rfl, hC⟩
      · unfold valS at hv
        split at hv
        · cases hv
        rename_i d hd
        split at hv
        case h_2 => cases hv
        rename_i fr2 pc2 hp2 hst
        split at hv
        case h_2 => cases hv
        rename_i v' hv'
        split at hv
        case isFalse => cases hv
        rename_i hc
        cases hv
        simp only [Bool.and_eq_true, Bool.not_eq_true'] at hc
        obtain ⟨⟨hav, hnd⟩, hsb⟩ := hc
        have hstep := ok_stepB pr oo ih hst B ν ρ (fun _ _ _ => False) (fun a' w' => SatL b0 b1 ν ρ B ⟨.normal, fr2, pc2, hp2⟩ a' w') hI (fun _ _ _ h => h.elim) (b0 := b0) (b1 := b1)
          (by
            refine Nat.ble_eq_true_of_le ?_
            rw [e0]
            have : (it * 2 ^ 20 + rid * 256) * (sz / K0) ≤ (it * 2 ^ 20 + rid * 256 + j) * (sz / K0) := Nat.mul_le_mul_right _ (by omega)
            omega)
          (fun _ => by
            refine Nat.ble_eq_true_of_le ?_
            rw [e1, e0]
            have h1 : (it * 2 ^ 20 + rid * 256 + j) * (sz / K0) + sz / K0 = (it * 2 ^ 20 + rid * 256 + j + 1) * (sz / K0) := by rw [Nat.add_mul _ 1, Nat.one_mul]
            have h2 : (it * 2 ^ 20 + rid * 256 + j + 1) * (sz / K0) ≤ (it * 2 ^ 20 + rid * 256 + 256) * (sz / K0) := Nat.mul_le_mul_right _ (by omega)
            have h3 : (it * 2 ^ 20 + rid * 256 + 256) * (sz / K0) = (it * 2 ^ 20 + rid * 256) * (sz / K0) + 256 * (sz / K0) := Nat.add_mul ..
            omega)
          (fun L hL a' w' hs => by simp only [List.mem_singleton] at hL; subst hL; exact hs) ⟨.normal, fr, pc, h0⟩ (by simp) a w ⟨ν, ρ, Agree.refl _ _ _ _, hpc, fun _ => ⟨hf, hC⟩⟩
        have hwp : wpOp P ops (fun _ _ _ => False) j (fun a' w' => SatL b0 b1 ν ρ B ⟨.normal, fr2, pc2, hp2⟩ a' w') a w := hstep
        unfold wpOp at hwp
        simp only [ho] at hwp
        rw [show Region.wanted o (yielded ops a.tmps) = true by simp [Region.wanted, hg]] at hwp
        simp only [if_true] at hwp
        rcases hwp with hwp | ⟨_, _, _, hf0⟩
        case inr => exact hf0.elim
        refine kUpon_of_wp hwp (fun u w' hs => ?_) (fun x w' hs => ?_)
        · obtain ⟨ν2, ρ2, hag, _, hfw⟩ := hs
          obtain ⟨hf2, hw2⟩ := hfw trivial
          have h5 := hf2.tmps d v hv' hnd
          simp only [Act.put, hd] at h5
          have hlt : d < a.tmps.size := by
            have := (Array.getElem?_eq_some_iff.1 h5).1
            simpa using this
          rw [Array.getElem?_setIfInBounds_self_of_lt hlt] at h5
          refine ⟨?_, HW.back_agree hag hh (hw2.subl (subL_sub hsb))⟩
          rw [Option.some.inj h5, SV.den_agree hag v hav]
        · obtain ⟨ν2, ρ2, hag, _, hfw⟩ := hs
          have := (hfw trivial).1.defers
          simp [Act.put, hd] at this

theorem order_ok (pr : PR P) (oo : OOK P O I) {n : Nat} (ih : ∀ m, m < n → AllOK P O I m) {lo sz f it rid b0 b1 : Nat} {ops : Array Oper} {h0 : Heap} (hsz : ops.size ≤ 256) (e0 : b0 = lo + (it * 2 ^ 20 + rid * 256) * (sz / K0)) (e1 : b1 = b0 + 256 * (sz / K0)) (hh : hav b0 b1 h0 = true)
    {B : Base} {ν : Env G} {ρ : Nat → Nat} (hI : ν.I = I) {Q : Exit → Act → World → Prop} (hQ : NP Q) {out : List Leaf} (hl : ∀ L ∈ out, ∀ a w, SatL b0 b1 ν ρ B L a w → LQ Q L.ex a w) :
    ∀ (l : OT) (fr : List SV) (pc : PC) (hp : Heap) (a : Act) (w : World), ordK P (opX P 0) (stepX0 P O lo sz f n it rid ops) h0 ops l fr pc hp = some out → SatL b0 b1 ν ρ B ⟨.normal, fr, pc, hp⟩ a w → HW B ν ρ h0 w → wpO P ops Q (fun w => HW B ν ρ h0 w) l a w
  | .done, fr, pc, hp, a, w, h, hs, _ => by
    simp only [ordK, Option.some.injEq] at h
    subst h
    exact hl _ (by simp) a w hs
  | .stop, fr, pc, hp, a, w, h, hs, _ => trivial
  | .first i r, fr, pc, hp, a, w, h, hs, hS => by
    unfold ordK at h
    unfold wpO
    split at h
    case h_2 => cases h
    rename_i hf
    split at h
    · cases h
    rename_i o ho
    obtain ⟨ν2, ρ2, hag, hpc, hfw⟩ := hs
    obtain ⟨hfr, hw⟩ := hfw trivial
    split at h
    case h_3 => cases h
    case h_2 =>
      rename_i hwx
      obtain ⟨x, hx, -, hwant⟩ := wantX_sound hwx hfr hpc
      simp only [List.mem_singleton] at hx
      subst hx
      exact ⟨o, undef, ho, .inr ⟨hwant, rfl⟩, hS, order_ok pr oo ih hsz e0 e1 hh hI hQ hl r _ _ _ _ w h ⟨ν2, ρ2, hag, hpc, fun _ => ⟨hfr.put o.dst (.tup []), hw⟩⟩ hS⟩
    rename_i hwx
    obtain ⟨x, hx, -, hwant⟩ := wantX_sound hwx hfr hpc
    simp only [List.mem_singleton] at hx
    subst hx
    split at h
    · cases h
    rename_i v hv
    refine ⟨o, v.den ν2 ρ2, ho, .inl ⟨hwant, fun w2 hC => ?_⟩, hS, order_ok pr oo ih hsz e0 e1 hh hI hQ hl r _ _ _ _ w h ⟨ν2, ρ2, hag, hpc, fun _ => ⟨hfr.put o.dst v, hw⟩⟩ hS⟩
    have hC2 : HW B ν2 ρ2 h0 w2 := by
      have hs2 : Agree b0 b1 ν2 ν ρ2 ρ := ⟨hag.I.symm, fun n hn => (hag.g n hn).symm, fun n hn => (hag.i n hn).symm, fun n hn => (hag.b n hn).symm, fun n hn => (hag.v n hn).symm, fun n hn => (hag.l n hn).symm, fun n hn => (hag.e n hn).symm, fun n hn => (hag.r n hn).symm⟩
      exact HW.back_agree hs2 hh hC
    unfold firstV at hv
    split at hv
    · rename_i hp'
      split at hv
      · rename_i u x hx
        cases hv
        rcases pure_yields hx hp' hfr hpc with h1 | ⟨v', h1, h2⟩
        · simp at h1
        · simp only [List.cons.injEq, Prod.mk.injEq, ORes.val.injEq, and_true, true_and] at h1
          obtain ⟨rfl, -⟩ := h1
          exact h2 w2
      · cases hv
    · unfold loadK at hv
      split at hv
      case h_2 => cases hv
      rename_i t x hop
      split at hv
      case h_2 => cases hv
      rename_i b off hx
      split at hv
      case h_2 => cases hv
      split at hv
      case h_2 => cases hv
      rename_i v' hlx
      cases hv
      obtain ⟨y, hy, _, hy2⟩ := loadX_run (t := t) (p := .ptr b off) hC2 hpc hlx
      simp only [List.mem_singleton] at hy
      subst hy
      have h3 := hy2 _ rfl
      simp only [execOp, hop, hfr.eval hx]
      simp [h3]
  | .alt i r s, fr, pc, hp, a, w, h, hs, hS => by
    unfold ordK at h
    unfold wpO
    split at h
    · cases h
    rename_i ls hst
    have hboth : nextK (ordK P (opX P 0) (stepX0 P O lo sz f n it rid ops) h0 ops r) h0 r.isDone ls = some out ∧ (s.isStop = true ∨ ordK P (opX P 0) (stepX0 P O lo sz f n it rid ops) h0 ops s fr pc hp = some out) := by
      unfold joinK at h
      split at h
      · rename_i hs1; exact ⟨h, .inl hs1⟩
      · split at h
        · cases h
        · rename_i x hx
          unfold sameR at h
          split at h
          · cases h
          rename_i y hy
          split at h
          case h_2 => cases h
          rename_i hb
          cases h
          have := leafsB_eq hb
          subst this
          exact ⟨hx, .inr hy⟩
    obtain ⟨h, hrest⟩ := hboth
    refine ⟨?_, ?_⟩
    case refine_2 =>
      rcases hrest with h1 | h1
      · cases s with
        | stop => trivial
        | done => cases h1
        | first _ _ => cases h1
        | alt _ _ _ => cases h1
      · exact order_ok pr oo ih hsz e0 e1 hh hI hQ hl s fr pc hp a w h1 hs hS
    by_cases hi : i < ops.size
    case neg =>
      exfalso
      have hno : ops[i]? = none := Array.getElem?_eq_none (by omega)
      cases n with
      | zero => simp [stepX0] at hst
      | succ n => unfold stepX0 at hst; rw [hno] at hst; cases hst
    obtain ⟨ν2, ρ2, hag, hpc, hfw⟩ := hs
    have hb0 : Nat.ble b0 (lo + (it * 2 ^ 20 + rid * 256 + i) * (sz / K0)) = true := by
      refine Nat.ble_eq_true_of_le ?_
      rw [e0]
      have : (it * 2 ^ 20 + rid * 256) * (sz / K0) ≤ (it * 2 ^ 20 + rid * 256 + i) * (sz / K0) := Nat.mul_le_mul_right _ (by omega)
      omega
    have hb1 : Nat.ble (lo + (it * 2 ^ 20 + rid * 256 + i) * (sz / K0) + sz / K0) b1 = true := by
      refine Nat.ble_eq_true_of_le ?_
      rw [e1, e0]
      have h1 : (it * 2 ^ 20 + rid * 256 + i) * (sz / K0) + sz / K0 = (it * 2 ^ 20 + rid * 256 + i + 1) * (sz / K0) := by rw [Nat.add_mul _ 1, Nat.one_mul]
      have h2 : (it * 2 ^ 20 + rid * 256 + i + 1) * (sz / K0) ≤ (it * 2 ^ 20 + rid * 256 + 256) * (sz / K0) := Nat.mul_le_mul_right _ (by omega)
      have h3 : (it * 2 ^ 20 + rid * 256 + 256) * (sz / K0) = (it * 2 ^ 20 + rid * 256) * (sz / K0) + 256 * (sz / K0) := Nat.add_mul ..
      omega
    have keep : ∀ {L : Leaf} {a' : Act} {w' : World}, SatL b0 b1 ν2 ρ2 B L a' w' → SatL b0 b1 ν ρ B L a' w' := fun ⟨ν3, ρ3, g1, g2, g3⟩ => ⟨ν3, ρ3, hag.trans g1, g2, g3⟩
    have hSof : ∀ {hp' : Heap} {fr' : List SV} {pc' : PC} {a' : Act} {w' : World}, subL h0 hp' = true → SatL b0 b1 ν ρ B ⟨.normal, fr', pc', hp'⟩ a' w' → HW B ν ρ h0 w' := fun hsb ⟨ν3, ρ3, g1, g2, g3⟩ => HW.back_agree g1 hh ((g3 trivial).2.subl (subL_sub hsb))
    exact ok_stepB pr oo ih hst B ν2 ρ2 Q (fun a' w' => HW B ν ρ h0 w' ∧ wpO P ops Q (fun w => HW B ν ρ h0 w) r a' w') (hag.I.trans hI) hQ (b0 := b0) (b1 := b1) hb0 (fun _ => hb1)
      (fun L hL a' w' hs' => by
        cases hd : r.isDone with
        | true =>
          have hrd : r = .done := by cases r <;> first | rfl | cases hd
          subst hrd
          rw [hd] at h
          unfold nextK at h
          simp only at h
          split at h
          case isFalse => cases h
          rename_i hall
          cases h
          have hok := List.all_eq_true.1 hall L hL
          have hq := hl L hL a' w' (keep hs')
          obtain ⟨ex, fr', pc', hp'⟩ := L
          cases ex with
          | normal => exact ⟨hSof hok (keep hs'), hq⟩
          | bad => exact hq
          | exit j => cases hok
          | ret => cases hok
        | false =>
          rw [hd] at h
          unfold nextK at h
          simp only at h
          split at h
          case h_2 => cases h
          rename_i fr' pc' hp'
          split at h
          case isFalse => cases h
          rename_i hsb
          simp only [List.mem_singleton] at hL
          subst hL
          exact ⟨hSof hsb (keep hs'), order_ok pr oo ih hsz e0 e1 hh hI hQ hl r _ _ _ _ _ h (keep hs') (hSof hsb (keep hs'))⟩)
      ⟨.normal, fr, pc, hp⟩ (by simp) a w ⟨ν2, ρ2, Agree.refl _ _ _ _, hpc, hfw⟩
end
end Go.Sy
end

section
namespace Go.Sy
open Go

section
variable {P : Program} {G : Type} {O : Orac} {I : In G}

theorem partOf_seqL {f : Nat} {a b : Code} (h : PartOf P f (.seq a b)) : PartOf P f a := by obtain ⟨fn, body, h1, h2, h3⟩ := h; exact ⟨fn, body, h1, h2, .seqL h3⟩
theorem partOf_seqR {f : Nat} {a b : Code} (h : PartOf P f (.seq a b)) : PartOf P f b := by obtain ⟨fn, body, h1, h2, h3⟩ := h; exact ⟨fn, body, h1, h2, .seqR h3⟩
theorem partOf_block {f i : Nat} {a : Code} (h : PartOf P f (.block i a)) : PartOf P f a := by obtain ⟨fn, body, h1, h2, h3⟩ := h; exact ⟨fn, body, h1, h2, .block h3⟩
theorem partOf_loop {f : Nat} {a : Code} (h : PartOf P f (.loop a)) : PartOf P f a := by obtain ⟨fn, body, h1, h2, h3⟩ := h; exact ⟨fn, body, h1, h2, .loop h3⟩
theorem partOf_condL {f : Nat} {x : Operand} {a b : Code} (h : PartOf P f (.cond x a b)) : PartOf P f a := by obtain ⟨fn, body, h1, h2, h3⟩ := h; exact ⟨fn, body, h1, h2, .condL h3⟩
theorem partOf_condR {f : Nat} {x : Operand} {a b : Code} (h : PartOf P f (.cond x a b)) : PartOf P f b := by obtain ⟨fn, body, h1, h2, h3⟩ := h; exact ⟨fn, body, h1, h2, .condR h3⟩

theorem pure_makes {op : Op} (h : pureOp op = true) : makes op = false := by
  cases op <;> simp [pureOp] at h <;> rfl

theorem step_pure {n lo sz f it rid : Nat} {ops : Array Oper} {i : Nat} {t t' : List Leaf} (h : stepX0 P O lo sz f n it rid ops i t = some t') {o : Oper} (ho : ops[i]? = some o) (hp : pureOp o.op = true) (hg : o.guard = none)
    {B : Base} {ν0 : Env G} {ρ0 : Nat → Nat} {L : Leaf} (hL : L ∈ t) (hn : L.ex = .normal) {a : Act} {w : World} (hs : SatL lo (lo + sz) ν0 ρ0 B L a w) :
    (∃ L' ∈ t', L'.ex = .bad ∧ SatL lo (lo + sz) ν0 ρ0 B L' a w) ∨ ∃ v, Yields P ops o v a ∧ ∃ L' ∈ t', L'.ex = .normal ∧ SatL lo (lo + sz) ν0 ρ0 B L' (a.put o.dst v) w := by
  cases n with
  | zero => simp [stepX0] at h
  | succ n =>
    unfold stepX0 at h
    simp only [ho] at h
    obtain ⟨l1, h1, hsub⟩ := bindL_mem h L hL
    obtain ⟨ex, fr, pc, hp'⟩ := L
    simp only at hn
    subst hn
    obtain ⟨ν, ρ, hag, hpc, hfw⟩ := hs
    obtain ⟨hf, hw⟩ := hfw trivial
    have hwx : wantX ops fr pc o = some [([], true)] := by simp [wantX, hg]
    simp only [hwx, bindO, bindL, if_true, List.nil_append] at h1
    have hmk := pure_makes hp
    generalize hsb : sz / K0 = sub at h1
    generalize hnm : lo + (it * 2 ^ 20 + rid * 256 + i) * sub = nm at h1
    split at h1
    · rename_i a1 b1 ha1 hb1
      simp only [Option.some.injEq] at hb1
      subst hb1
      simp only [List.append_nil, Option.some.injEq] at h1
      subst h1
      split at ha1
      · split at ha1
        · cases ha1
        · rename_i outs houts
          have hwant : Region.wanted o (yielded ops a.tmps) = true := by simp [Region.wanted, hg]
          rw [opO_pure hp] at houts
          rcases pure_yields houts hp hf hpc with rfl | ⟨v, rfl, hrun⟩
          · left
            simp only [bindL, hmk, Bool.false_eq_true, if_false] at ha1
            simp only [List.append_nil, Option.some.injEq] at ha1
            subst ha1
            exact ⟨⟨.bad, [], pc, []⟩, hsub _ (by simp), rfl, ν, ρ, hag, hpc, fun h => h.elim⟩
          · right
            simp only [bindL, hmk, Bool.false_eq_true, if_false] at ha1
            simp only [List.append_nil, Option.some.injEq] at ha1
            subst ha1
            exact ⟨v.den ν ρ, .inl ⟨hwant, hrun⟩, ⟨.normal, fput fr o.dst v, pc, hp'⟩, hsub _ (by simp), rfl, ν, ρ, hag, hpc, fun _ => ⟨hf.put o.dst v, hw⟩⟩
      · cases ha1
    · cases h1

theorem set_toArray (l : List Bool) (i : Nat) : (l.set i true).toArray = l.toArray.setIfInBounds i true := by
  simp

theorem covHyp {K : List Bool → Act → World → Prop} {Q : Exit → Act → World → Prop} {lo hi : Nat} {B : Base} {ν0 : Env G} {ρ0 : Nat → Nat} {G' : Front} (hyp : ∀ l ls, (l, ls) ∈ G' → ∀ L ∈ ls, ∀ a w, SatL lo hi ν0 ρ0 B L a w → RQ (K l) Q L.ex a w) {l : List Bool} {t : List Leaf} (h : CovF (l, t) G') :
    ∀ L ∈ t, ∀ a w, SatL lo hi ν0 ρ0 B L a w → RQ (K l) Q L.ex a w := by
  intro L hL a w hs
  obtain ⟨u, hu, hc⟩ := h
  obtain ⟨M, hM, c⟩ := hc L hL
  have := hyp _ _ hu M hM a w (c.sat hs)
  rw [c.ex]; exact this

theorem ok_level {n : Nat} (ih : ∀ m, m < n → AllOK P O I m) : ∀ {lo sz f it rid : Nat} {ops : Array Oper} {F G1 G' : Front}, levelX0 P O lo sz f n it rid ops F G1 = some G' → (∀ x ∈ G1, CovF x G') ∧ (Region.noSelect ops = true → ∀ (B : Base) (ν0 : Env G) (ρ0 : Nat → Nat) (Q : Exit → Act → World → Prop) (k : Nat), ν0.I = I → NP Q →
    (∀ l ls, (l, ls) ∈ G' → ∀ L ∈ ls, ∀ a w, SatL lo (lo + sz) ν0 ρ0 B L a w → RQ (wpAny P .any ops Q k l.toArray) Q L.ex a w) → ∀ l ls, (l, ls) ∈ F → ∀ L ∈ ls, ∀ a w, SatL lo (lo + sz) ν0 ρ0 B L a w → RQ (wpAny P .any ops Q (k + 1) l.toArray) Q L.ex a w) := by
  intro lo sz f it rid ops F G1 G' h
  cases n with
  | zero => simp [levelX0] at h
  | succ n =>
    unfold levelX0 at h
    cases F with
    | nil =>
      simp only [Option.some.injEq] at h
      subst h
      exact ⟨fun _ h => CovF.of_mem h, fun _ _ _ _ _ _ _ _ _ l ls hm => by cases hm⟩
    | cons x r =>
      obtain ⟨l, t⟩ := x
      simp only at h
      split at h
      · -- one that is pure
        rename_i i hi
        split at h
        · rename_i G2 hG1
          obtain ⟨s1, s2⟩ := (ih n (by omega)).side hG1
          obtain ⟨r1, r2⟩ := (ih n (by omega)).level h
          refine ⟨fun x hx => (s1 x hx).trans r1, fun hsel B ν0 ρ0 Q k hI hQ hyp l' ls' hm L hL a w hs => ?_⟩
          rcases List.mem_cons.1 hm with hm | hm
          · cases hm
            obtain ⟨m, t', hmn, hst, hmem⟩ := s2 i (by simp)
            have hst2 := (ih m (by omega)).step hst B ν0 ρ0 Q (wpAny P .any ops Q k (l.set i true).toArray) hI hQ (covHyp hyp (hmem.trans r1)) L hL a w hs
            have hsome := List.find?_some hi
            have hin := List.mem_of_find?_eq_some hi
            cases hex : L.ex with
            | exit j => rw [hex] at hst2; exact hst2
            | ret => rw [hex] at hst2; exact hst2
            | bad => rw [hex] at hst2; exact hst2
            | normal =>
              simp only [Bool.and_eq_true] at hsome
              obtain ⟨hpu, hfree⟩ := hsome
              cases ho : ops[i]? with
              | none => rw [ho] at hpu; cases hpu
              | some o =>
                rw [ho] at hpu
                simp only [Bool.and_eq_true, Option.isNone_iff_eq_none] at hpu
                show wpAny P .any ops Q (k + 1) l.toArray a w
                rcases step_pure hst ho hpu.1 hpu.2 hL hex hs with ⟨L', hL', hb, hs'⟩ | ⟨v, hy, L', hL', hn, hs'⟩
                · have := covHyp hyp (hmem.trans r1) L' hL' a w hs'
                  rw [hb] at this
                  exact this.elim
                · have h5 := covHyp hyp (hmem.trans r1) L' hL' _ w hs'
                  rw [hn] at h5
                  refine wpAny_take ho hsel hfree ?_ (fun c a w hq => (hQ _ _ _ hq).elim) hy ?_
                  · simpa [readyX] using hin
                  · rw [← set_toArray]; exact h5
          · exact r2 hsel B ν0 ρ0 Q k hI hQ hyp l' ls' hm L hL a w hs
        · cases h
      · -- all that may come up
        split at h
        · cases h
        · rename_i is hne
          split at h
          · rename_i G2 hG1
            obtain ⟨s1, s2⟩ := (ih n (by omega)).side hG1
            obtain ⟨r1, r2⟩ := (ih n (by omega)).level h
            refine ⟨fun x hx => (s1 x hx).trans r1, fun hsel B ν0 ρ0 Q k hI hQ hyp l' ls' hm L hL a w hs => ?_⟩
            rcases List.mem_cons.1 hm with hm | hm
            · cases hm
              have key : ∀ i ∈ readyX ops l, RQ (wpOp P ops Q i (wpAny P .any ops Q k (l.set i true).toArray)) Q L.ex a w := fun i hi => by
                obtain ⟨m, t', hmn, hst, hmem⟩ := s2 i hi
                exact (ih m (by omega)).step hst B ν0 ρ0 Q (wpAny P .any ops Q k (l.set i true).toArray) hI hQ (covHyp hyp (hmem.trans r1)) L hL a w hs
              have hnn : readyX ops l ≠ [] := fun e => hne e
              obtain ⟨i0, hi0⟩ := List.exists_mem_of_ne_nil _ hnn
              have k0 := key i0 hi0
              cases hex : L.ex with
              | exit j => rw [hex] at k0; exact k0
              | ret => rw [hex] at k0; exact k0
              | bad => rw [hex] at k0; exact k0
              | normal =>
                show wpAny P .any ops Q (k + 1) l.toArray a w
                refine ⟨fun h0 => absurd h0 hnn, fun i hi => ?_⟩
                have := key i hi
                rw [hex] at this
                rw [← set_toArray]
                exact this
            · exact r2 hsel B ν0 ρ0 Q k hI hQ hyp l' ls' hm L hL a w hs
          · cases h

theorem ok_draw {n : Nat} (ih : ∀ m, m < n → AllOK P O I m) {lo sz f it rid : Nat} {ops : Array Oper} {k : Nat} {F : Front} {t : List Leaf} (h : drawX0 P O lo sz f n it rid ops k F = some t) (hsel : Region.noSelect ops = true) (B : Base) (ν0 : Env G) (ρ0 : Nat → Nat) (Q : Exit → Act → World → Prop) (hI : ν0.I = I) (hQ : NP Q)
    (hl : ∀ L ∈ t, ∀ a w, SatL lo (lo + sz) ν0 ρ0 B L a w → LQ Q L.ex a w) : ∀ l ls, (l, ls) ∈ F → ∀ L ∈ ls, ∀ a w, SatL lo (lo + sz) ν0 ρ0 B L a w → RQ (wpAny P .any ops Q k l.toArray) Q L.ex a w := by
  cases n with
  | zero => simp [drawX0] at h
  | succ n =>
    unfold drawX0 at h
    cases k with
    | zero =>
      simp only at h
      split at h
      · rename_i l0 t0
        split at h
        · rename_i he
          cases h
          intro l ls hm L hL a w hs
          simp only [List.mem_singleton, Prod.mk.injEq] at hm
          obtain ⟨rfl, rfl⟩ := hm
          have := hl L hL a w hs
          cases hex : L.ex with
          | normal =>
            rw [hex] at this
            refine ⟨?_, this⟩
            simpa [readyX] using he
          | exit j => rw [hex] at this; exact this
          | ret => rw [hex] at this; exact this
          | bad => rw [hex] at this; exact this
        · cases h
      · cases h
    | succ k =>
      simp only at h
      split at h
      · rename_i G hG
        have h1 := (ih n (by omega)).draw h hsel B ν0 ρ0 Q hI hQ hl
        exact ((ih n (by omega)).level hG).2 hsel B ν0 ρ0 Q k hI hQ h1
      · cases h

theorem ok_call (oo : OOK P O I) {n : Nat} (ih : ∀ m, m < n → AllOK P O I m) {lo sz f : Nat} {args : List SV} {pc : PC} {hp : Heap} {cs : List CLeaf} (h : callX0 P O lo sz n f args pc hp = some cs) (B : Base) (ν : Env G) (ρ : Nat → Nat) (w : World) (R : Ending → World → Prop) (hI : ν.I = I) (hpc : pcDen ν pc) (hw : HW B ν ρ hp w)
    (hc : ∀ c ∈ cs, ∀ ν' ρ' w', Agree lo (lo + sz) ν ν' ρ ρ' → pcDen ν' c.pc → c.bad = false ∧ (HW B ν' ρ' c.hp w' → R (.returned (c.v.den ν' ρ')) w')) : Calls P f (denL ν ρ args).toArray w R := by
  cases n with
  | zero => simp [callX0] at h
  | succ n =>
    unfold callX0 at h
    split at h
    · rename_i r hor
      split at h
      · rename_i h64
        subst h
        exact oo.call hor sz (Nat.le_of_ble_eq_true h64) B ν ρ w R hI hpc hw hc
      · cases h
    split at h
    · cases h
    · rename_i fn hfn
      split at h
      · cases h
      · rename_i c hbody
        split at h
        · cases h
        · rename_i ls hls
          refine Calls.mono (R := fun e w' => match e with | .returned _ => R e w' | _ => False) ?_ (fun e w' he => by cases e <;> first | exact he | exact he.elim)
          refine calls_of_wp hfn hbody ?_
          refine (ih n (by omega)).code hls ⟨fn, c, hfn, hbody, .refl c⟩ B ν ρ _ hI (fun ch a w hq => hq.2.elim) ?_ _ w ⟨ν, ρ, Agree.refl _ _ _ _, hpc, fun _ => ⟨FR.of_eq ?_ rfl, hw⟩⟩
          · intro L hL a' w' hs
            obtain ⟨l1, h1, hsub⟩ := bindL_mem h L hL
            obtain ⟨ν', ρ', hag, hpc', hfw⟩ := hs
            have fin : NotBad L.ex → (match resX P L.fr L.hp fn.results.toList with | some vs => some [(⟨false, oneOr vs, L.pc, clean lo (lo + sz) (oneOr vs) L.hp⟩ : CLeaf)] | none => none) = some l1 →
                a'.defers = [] ∧ ∃ v, (results fn a'.tmps).run P w' = .ok v w' ∧ R (.returned v) w' := by
              intro hnb hl1
              obtain ⟨hf, hw'⟩ := hfw hnb
              split at hl1
              · rename_i vs hvs
                cases hl1
                refine ⟨hf.defers, _, results_sound hw' hf hvs, ?_⟩
                exact (hc ⟨false, oneOr vs, L.pc, clean lo (lo + sz) (oneOr vs) L.hp⟩ (hsub _ (by simp)) ν' ρ' w' hag hpc').2 hw'.sub
              · cases hl1
            cases hex : L.ex with
            | normal =>
              rw [hex] at h1 fin
              exact fin trivial h1
            | ret =>
              rw [hex] at h1 fin
              exact fin trivial h1
            | exit j => rw [hex] at h1; cases h1
            | bad =>
              rw [hex] at h1
              simp only [Option.some.injEq] at h1
              subst h1
              have := (hc ⟨true, .tup [], L.pc, []⟩ (hsub _ (by simp)) ν' ρ' w' hag hpc').1
              cases this
          · apply Array.ext'
            rw [denL_append]
            simp [denL_eq, undef_den]

theorem ok_code (pr : PR P) (oo : OOK P O I) {n : Nat} (ih : ∀ m, m < n → AllOK P O I m) {lo sz f it : Nat} {c : Code} {fr : List SV} {pc : PC} {hp : Heap} {ls : List Leaf} (h : codeX0 P O lo sz f n it c fr pc hp = some ls) (hp0 : PartOf P f c) (B : Base) (ν0 : Env G) (ρ0 : Nat → Nat) (Q : Exit → Act → World → Prop) (hI : ν0.I = I) (hQ : NP Q)
    (hl : ∀ L ∈ ls, ∀ a w, SatL lo (lo + sz) ν0 ρ0 B L a w → LQ Q L.ex a w) (a : Act) (w : World) (hs : SatL lo (lo + sz) ν0 ρ0 B ⟨.normal, fr, pc, hp⟩ a w) : c.wp P Q a w := by
  cases n with
  | zero => simp [codeX0] at h
  | succ n =>
    unfold codeX0 at h
    cases c <;> (try simp only at h)
    case skip =>
      cases h
      exact wp_skip (hl _ (by simp) a w hs)
    case ret =>
      cases h
      exact wp_ret (hl ⟨.ret, fr, pc, hp⟩ (by simp) a w hs)
    case exit id =>
      cases h
      exact wp_exit (hl ⟨.exit id, fr, pc, hp⟩ (by simp) a w hs)
    case seq x y =>
      split at h
      · rename_i l1 h1
        refine wp_seq ((ih n (by omega)).code h1 (partOf_seqL hp0) B ν0 ρ0 (Exit.then (Code.wp P y Q) Q) hI (fun ch a w hq => hQ ch a w hq) ?_ a w hs)
        intro L hL a' w' hs'
        obtain ⟨l2, h2, hsub⟩ := bindL_mem h L hL
        obtain ⟨ex, fr', pc', hp'⟩ := L
        cases ex with
        | normal => exact (ih n (by omega)).code h2 (partOf_seqR hp0) B ν0 ρ0 Q hI hQ (fun L' hL' => hl L' (hsub L' hL')) a' w' hs'
        | exit j => simp only [Option.some.injEq] at h2; subst h2; exact hl _ (hsub _ (by simp)) a' w' hs'
        | ret => simp only [Option.some.injEq] at h2; subst h2; exact hl _ (hsub _ (by simp)) a' w' hs'
        | bad => simp only [Option.some.injEq] at h2; subst h2; exact hl _ (hsub _ (by simp)) a' w' hs'
      · cases h
    case block id x =>
      split at h
      · rename_i l1 h1
        cases h
        refine wp_block ((ih n (by omega)).code h1 (partOf_block hp0) B ν0 ρ0 (Exit.inBlock id Q) hI (fun ch a w hq => hQ ch a w hq) ?_ a w hs)
        intro L hL a' w' hs'
        have := hl _ (List.mem_map.2 ⟨L, hL, rfl⟩) a' w'
        obtain ⟨ex, fr', pc', hp'⟩ := L
        cases ex with
        | normal => exact this hs'
        | exit j =>
          simp only at this
          show Exit.inBlock id Q (.exit j) a' w'
          unfold Exit.inBlock
          by_cases hj : j = id
          · subst hj
            simp only [Nat.beq_refl, if_true] at this
            simp only [if_true]
            exact this hs'
          · have hb : Nat.beq j id = false := by
              cases hq : Nat.beq j id
              · rfl
              · exact absurd (Nat.eq_of_beq_eq_true hq) hj
            rw [hb] at this
            simp only [hj, if_false]
            exact this hs'
        | ret => exact this hs'
        | bad => exact (this hs').elim
      · cases h
    case cond x y z =>
      split at h
      · rename_i e he
        obtain ⟨ν, ρ, hag, hpc, hfw⟩ := hs
        obtain ⟨hf, hw⟩ := hfw trivial
        have hev := hf.eval he
        simp only [SV.den] at hev
        split at h
        · rename_i hk
          have := SB.known_den hpc hk
          rw [this] at hev
          exact wp_cond_true hev ((ih n (by omega)).code h (partOf_condL hp0) B ν0 ρ0 Q hI hQ hl a w ⟨ν, ρ, hag, hpc, hfw⟩)
        · rename_i hk
          have := SB.known_den hpc hk
          rw [this] at hev
          exact wp_cond_false hev ((ih n (by omega)).code h (partOf_condR hp0) B ν0 ρ0 Q hI hQ hl a w ⟨ν, ρ, hag, hpc, hfw⟩)
        · split at h
          · rename_i as bs has hbs
            cases h
            cases hq : e.den ν
            · rw [hq] at hev
              exact wp_cond_false hev ((ih n (by omega)).code hbs (partOf_condR hp0) B ν0 ρ0 Q hI hQ (fun L hL => hl L (List.mem_append_right _ hL)) a w ⟨ν, ρ, hag, pcDen_asm hq hpc, fun _ => ⟨hf, hw⟩⟩)
            · rw [hq] at hev
              exact wp_cond_true hev ((ih n (by omega)).code has (partOf_condL hp0) B ν0 ρ0 Q hI hQ (fun L hL => hl L (List.mem_append_left _ hL)) a w ⟨ν, ρ, hag, pcDen_asm hq hpc, fun _ => ⟨hf, hw⟩⟩)
          · cases h
      · cases h
    case region rid ops dr =>
      cases dr with
      | false =>
        simp only at h
        refine wp_region ?_
        have := (ih n (by omega)).ops h B ν0 ρ0 Q hI hQ hl ⟨.normal, fr, pc, hp⟩ (by simp) a w hs
        rw [List.range_eq_range']
        exact this
      | true =>
        simp only at h
        split at h
        · rename_i m fr' hT
          unfold headT at hT
          split at hT
          · cases hT
          rename_i nn htl
          split at hT
          case isFalse => cases hT
          rename_i hc
          split at hT
          · cases hT
          rename_i fr2 hhd
          cases hT
          simp only [Bool.and_eq_true] at hc
          obtain ⟨⟨hsz, hnz⟩, hhv⟩ := hc
          have hsz := Nat.le_of_ble_eq_true hsz
          have hnz := Nat.le_of_ble_eq_true hnz
          obtain ⟨ν, ρ, hag, hpc, hfw⟩ := hs
          obtain ⟨hf, hw⟩ := hfw trivial
          refine wp_region_K (C := fun w => HW B ν ρ hp w) _ pr.mixed (oo.tail hp0 htl) hw.drew ?_
          refine head_ok pr oo (fun m hm => ih m (by omega)) rfl rfl hhv (hag.I.trans hI) hpc ?_ _ 0 fr a (by omega) hhd hf
          intro a' hf' w' hw'
          exact (ih n (by omega)).ops h B ν0 ρ0 Q hI hQ hl ⟨.normal, fr', pc, hp⟩ (by simp) a' w' ⟨ν, ρ, hag, hpc, fun _ => ⟨hf', hw'⟩⟩
        split at h
        · rename_i ls' hT
          cases h
          unfold ordT at hT
          split at hT
          · cases hT
          rename_i l htl
          split at hT
          case isFalse => cases hT
          rename_i hc
          simp only [Bool.and_eq_true] at hc
          obtain ⟨⟨hsz, htop⟩, hhv⟩ := hc
          obtain ⟨ν, ρ, hag, hpc, hfw⟩ := hs
          obtain ⟨hf, hw⟩ := hfw trivial
          have i1 : Nat.ble lo (lo + (it * 2 ^ 20 + rid * 256) * (sz / K0)) = true := Nat.ble_eq_true_of_le (by omega)
          refine wp_region_O (S := fun w => HW B ν ρ hp w) pr.mixed hQ (oo.order hp0 htl) ?_
          refine order_ok pr oo (fun m hm => ih m (by omega)) (Nat.le_of_ble_eq_true hsz) rfl rfl hhv (hag.I.trans hI) hQ ?_ l fr pc hp a w.drew hT ⟨ν, ρ, Agree.refl _ _ _ _, hpc, fun _ => ⟨hf, hw.drew⟩⟩ hw.drew
          intro L hL a' w' hs'
          obtain ⟨ν3, ρ3, g1, g2, g3⟩ := hs'
          exact hl L hL a' w' ⟨ν3, ρ3, hag.trans (g1.mono i1 htop), g2, g3⟩
        split at h
        · rename_i hsel
          refine wp_region_any pr.mixed ?_
          obtain ⟨ν, ρ, hag, hpc, hfw⟩ := hs
          obtain ⟨hf, hw⟩ := hfw trivial
          have := (ih n (by omega)).draw h hsel B ν0 ρ0 Q hI hQ hl _ _ (by simp; exact ⟨rfl, rfl⟩) ⟨.normal, fr, pc, hp⟩ (by simp) a w.drew ⟨ν, ρ, hag, hpc, fun _ => ⟨hf, hw.drew⟩⟩
          simp only [List.toArray_replicate] at this
          exact this
        · cases h
    case loop x =>
      split at h
      · rename_i r hor
        split at h
        · rename_i hc
          simp only [Bool.and_eq_true] at hc
          subst h
          obtain ⟨ν, ρ, hag, hpc, hfw⟩ := hs
          obtain ⟨hf, hw⟩ := hfw trivial
          have i1 : Nat.ble lo (lo + (it * 2 ^ 20 + site x * 256 + 255) * (sz / K0)) = true := Nat.ble_eq_true_of_le (by omega)
          refine oo.loop hp0 hor (sz / K0) (Nat.le_of_ble_eq_true hc.2) B ν ρ Q hQ (hag.I.trans hI) ?_ a w hpc hf hw
          intro L hL a' w' hs'
          obtain ⟨ν', ρ', hag', hpc', hfw'⟩ := hs'
          exact hl L hL a' w' ⟨ν', ρ', hag.trans (hag'.mono i1 hc.1), hpc', hfw'⟩
        · cases h
      · have := (ih n (by omega)).loops h (partOf_loop hp0) B ν0 ρ0 Q hI hQ hl ⟨.normal, fr, pc, hp⟩ (by simp) a w hs
        exact wp_loop_rounds _ this
    all_goals (cases h)

theorem ok_loops {n : Nat} (ih : ∀ m, m < n → AllOK P O I m) {lo sz f it k : Nat} {c : Code} {ls ls' : List Leaf} (h : loopX0 P O lo sz f n it k c ls = some ls') (hp0 : PartOf P f c) (B : Base) (ν0 : Env G) (ρ0 : Nat → Nat) (Q : Exit → Act → World → Prop) (hI : ν0.I = I) (hQ : NP Q)
    (hl : ∀ L ∈ ls', ∀ a w, SatL lo (lo + sz) ν0 ρ0 B L a w → LQ Q L.ex a w) : ∀ L ∈ ls, ∀ a w, SatL lo (lo + sz) ν0 ρ0 B L a w → RQ (Code.rounds P c Q k) Q L.ex a w := by
  cases n with
  | zero => simp [loopX0] at h
  | succ n =>
    unfold loopX0 at h
    split at h
    · rename_i hno
      cases h
      intro L hL a w hs
      have h1 := hl L hL a w hs
      have h2 := List.find?_eq_none.1 hno L hL
      cases hex : L.ex with
      | normal => rw [hex] at h2; simp at h2
      | exit i => rw [hex] at h1; exact h1
      | ret => rw [hex] at h1; exact h1
      | bad => rw [hex] at h1; exact h1
    · split at h
      · cases h
      · rename_i k
        split at h
        · rename_i l1 h1
          have h2 := (ih n (by omega)).loops h hp0 B ν0 ρ0 Q hI hQ hl
          intro L hL a w hs
          obtain ⟨l2, h3, hsub⟩ := bindL_mem h1 L hL
          obtain ⟨ex, fr, pc, hp⟩ := L
          cases ex with
          | normal =>
            show Code.rounds P c Q (k + 1) a w
            rw [rounds_succ]
            refine (ih n (by omega)).code h3 hp0 B ν0 ρ0 (Exit.then (Code.rounds P c Q k) Q) hI (fun ch a w hq => hQ ch a w hq) ?_ a w hs
            intro L' hL' a' w' hs'
            have h4 := h2 L' (hsub L' hL') a' w' hs'
            cases hex : L'.ex with
            | normal => rw [hex] at h4; exact h4
            | exit i => rw [hex] at h4; exact h4
            | ret => rw [hex] at h4; exact h4
            | bad => rw [hex] at h4; exact h4
          | exit j => simp only [Option.some.injEq] at h3; subst h3; exact h2 _ (hsub _ (by simp)) a w hs
          | ret => simp only [Option.some.injEq] at h3; subst h3; exact h2 _ (hsub _ (by simp)) a w hs
          | bad => simp only [Option.some.injEq] at h3; subst h3; exact h2 _ (hsub _ (by simp)) a w hs
        · cases h

theorem all_ok (pr : PR P) (oo : OOK P O I) (n : Nat) : AllOK P O I n := by
  induction n using Nat.strongRecOn with
  | _ n ih =>
    exact { code := fun h hp0 B ν0 ρ0 Q hI hQ hl a w hs => ok_code pr oo ih h hp0 B ν0 ρ0 Q hI hQ hl a w hs
            loops := fun h hp0 B ν0 ρ0 Q hI hQ hl => ok_loops ih h hp0 B ν0 ρ0 Q hI hQ hl
            ops := fun h B ν0 ρ0 Q hI hQ hl => ok_ops ih h B ν0 ρ0 Q hI hQ hl
            step := fun h B ν0 ρ0 Q K hI hQ hl => ok_step pr oo ih h B ν0 ρ0 Q K hI hQ hl
            call := fun h B ν ρ w R hI hpc hw hc => ok_call oo ih h B ν ρ w R hI hpc hw hc
            draw := fun h hsel B ν0 ρ0 Q hI hQ hl => ok_draw ih h hsel B ν0 ρ0 Q hI hQ hl
            level := fun h => ok_level ih h
            side := fun h => ok_side ih h }
end
#print axioms all_ok
end Go.Sy
end

section
namespace Go.Sy
open Go

/-! ### the executor once more, in small pieces (the kernel runs it faster) -/
structure Rec where
  code : Nat → Nat → Nat → Nat → Code → List SV → PC → Heap → Option (List Leaf)
  loop : Nat → Nat → Nat → Nat → Nat → Code → List Leaf → Option (List Leaf)
  ops : Nat → Nat → Nat → Nat → Nat → Array Oper → Nat → Nat → List Leaf → Option (List Leaf)
  step : Nat → Nat → Nat → Nat → Nat → Array Oper → Nat → List Leaf → Option (List Leaf)
  call : Nat → Nat → Nat → List SV → PC → Heap → Option (List CLeaf)
  draw : Nat → Nat → Nat → Nat → Nat → Array Oper → Nat → Front → Option (List Leaf)
  level : Nat → Nat → Nat → Nat → Nat → Array Oper → Front → Front → Option Front
  side : Nat → Nat → Nat → Nat → Nat → Array Oper → List Bool → List Leaf → List Nat → Front → Option Front
def Rec.zero : Rec := ⟨fun _ _ _ _ _ _ _ _ => none, fun _ _ _ _ _ _ _ => none, fun _ _ _ _ _ _ _ _ _ => none, fun _ _ _ _ _ _ _ _ => none, fun _ _ _ _ _ _ => none, fun _ _ _ _ _ _ _ _ => none, fun _ _ _ _ _ _ _ _ => none, fun _ _ _ _ _ _ _ _ _ _ => none⟩

/-! one operation, arm by arm -/
def oOne (v : SV) (hp : Heap) : List (PC × ORes) := [([], .val v hp)]
def oMap (hp : Heap) : Option SV → Option (List (PC × ORes))
  | some v => some (oOne v hp)
  | none => none
def oMk (nm : Nat) (hp : Heap) (e : Nat) (cs : List SV) (v : SV) : Option (List (PC × ORes)) :=
  if avL nm (nm + 1) cs && hav nm (nm + 1) hp then some [([], .val v (hadd nm (.cells cs e true) hp))] else none
def oPick (fr : List SV) (pc : PC) (hp : Heap) (c a b : Operand) : Option (List (PC × ORes)) :=
  match evalO fr c with
  | some (.bool e) =>
    match e.known pc with
    | some true => (evalO fr a).map (oOne · hp)
    | some false => (evalO fr b).map (oOne · hp)
    | none => match evalO fr a, evalO fr b with
      | some x, some y => some [([asm e true], .val x hp), ([asm e false], .val y hp)]
      | _, _ => none
  | _ => none
def oAlloc (P : Program) (nm : Nat) (hp : Heap) (e : Nat) : Option (List (PC × ORes)) := match zeroT P e with
  | some z => oMk nm hp e z.cellsOf (.ptr nm (.lit 0))
  | none => none
def oBox (nm : Nat) (fr : List SV) (hp : Heap) (e : Nat) (x : Operand) : Option (List (PC × ORes)) := match evalO fr x with
  | some v => oMk nm hp e v.cellsOf (.ptr nm (.lit 0))
  | none => none
def oBuild (P : Program) (fr : List SV) (hp : Heap) (t : Nat) (ps : Array (Nat × Operand)) : Option (List (PC × ORes)) := match evalP fr ps.toList with
  | some parts => (buildX P t parts).map (oOne · hp)
  | none => none
def oBuildSlice (P : Program) (nm : Nat) (fr : List SV) (hp : Heap) (t len : Nat) (ps : Array (Nat × Operand)) : Option (List (PC × ORes)) := match evalP fr ps.toList with
  | some parts => match buildSliceX P t len parts with
    | some (cs, e) => oMk nm hp e cs (.sl nm (.lit 0) (.lit len) (.lit len))
    | none => none
  | none => none
def oLoad (P : Program) (fr : List SV) (pc : PC) (hp : Heap) (t : Nat) (x : Operand) : Option (List (PC × ORes)) := match evalO fr x with
  | some p => (loadX P pc hp t p).map (outsV hp)
  | none => none
def oStore (P : Program) (fr : List SV) (pc : PC) (hp : Heap) (t : Nat) (x y : Operand) : Option (List (PC × ORes)) := match evalO fr x, evalO fr y with
  | some p, some v => (storeX P pc hp t p v).map outsH
  | _, _ => none
def oNil (fr : List SV) (hp : Heap) (x : Operand) : Option (List (PC × ORes)) := match evalO fr x with
  | some (.ptr b off) => some (oOne (.ptr b off) hp)
  | some (.fn f a c) => some (oOne (.fn f a c) hp)
  | some (.ifc t v) => some (oOne (.ifc t v) hp)
  | some .nilPtr | some .nilFunc => some [([], .bad)]
  | _ => none
def oBin (P : Program) (fr : List SV) (pc : PC) (hp : Heap) (op : BinOp) (t : Nat) (x y : Operand) : Option (List (PC × ORes)) := match evalO fr x, evalO fr y with
  | some a, some b => (binX P pc op t a b).map (outsV hp)
  | _, _ => none
def oUn (fr : List SV) (hp : Heap) (op : UnOp) (x : Operand) : Option (List (PC × ORes)) := match evalO fr x with
  | some a => (unX op a).map (oOne · hp)
  | none => none
def oConv (P : Program) (fr : List SV) (hp : Heap) (s d : Nat) (x : Operand) : Option (List (PC × ORes)) := match evalO fr x, P.underlying s, P.underlying d with
  | some (.int _ a), some (.int _), some (.int k) => some (oOne (.int k (SI.mkWrap k a)) hp)
  | _, _, _ => none
def oMakeFunc (fr : List SV) (hp : Heap) (fn : Fn) (first caps : Array Operand) : Option (List (PC × ORes)) :=
  match fn, evalOL fr first.toList, evalOL fr caps.toList with
  | .func f, some a, some c => some (oOne (.fn f a c) hp)
  | _, _, _ => none
def oExtract (fr : List SV) (hp : Heap) (x : Operand) (i : Nat) : Option (List (PC × ORes)) := match evalO fr x with
  | some (.tup l) => (l[i]?).map (oOne · hp)
  | _ => none
def oFieldAddr (P : Program) (fr : List SV) (pc : PC) (hp : Heap) (s : Nat) (x : Operand) (f : Nat) : Option (List (PC × ORes)) := match evalO fr x, P.underlying s with
  | some (.ptr b off), some (.struct fs) =>
    match fs[f]? with
    | some g => match sizeT P g.type with
      | some n => if Nat.ble 1 n && off.nn pc then some (oOne (.ptr b (SI.mkAdd off (.lit (.ofNat g.offset)))) hp) else none
      | none => none
    | none => none
  | _, _ => none
def oField (P : Program) (fr : List SV) (hp : Heap) (s : Nat) (x : Operand) (f : Nat) : Option (List (PC × ORes)) := match evalO fr x, P.underlying s with
  | some (.agg cs), some (.struct fs) =>
    match fs[f]? with
    | some g => match aggT P g.type, sizeT P g.type with
      | some true, some n => if Nat.ble (g.offset + n) cs.length then some (oOne (.agg ((cs.drop g.offset).take n)) hp) else none
      | some false, _ => (cs[g.offset]?).map (oOne · hp)
      | _, _ => none
    | none => none
  | _, _ => none
def oIndexAddr (P : Program) (fr : List SV) (pc : PC) (hp : Heap) (t : Nat) (x i : Operand) : Option (List (PC × ORes)) := match evalO fr x, evalO fr i, P.underlying t with
  | some (.sl b off len _), some (.int _ k), some (.slice e) =>
    match sizeT P e with
    | some n => (indexX pc n b off len k).map (outsV hp)
    | none => none
  | some (.ptr b (.lit (.ofNat off))), some (.int _ (.lit (.ofNat k))), some (.array len e) =>
    match sizeT P e with
    | some n => if Nat.ble (k + 1) len then some (oOne (.ptr b (.lit (off + k * n : Nat))) hp) else none
    | none => none
  | some (.ptr b (.lit (.ofNat off))), some (.int _ k), some (.array len e) =>
    match sizeT P e with
    | some n => if Nat.ble len 64 then some ((forkX k len 0 pc).map fun x => (x.1, match x.2 with | some j => .val (.ptr b (.lit (.ofNat (off + j * n)))) hp | none => .bad)) else none
    | none => none
  | some .nilSl, some (.int _ _), some (.slice _) | some (.emp _), some (.int _ _), some (.slice _) => some [([], .bad)]
  | _, _, _ => none
def oSlice (P : Program) (fr : List SV) (hp : Heap) (t : Nat) (x : Operand) (lo hi mx : Option Operand) : Option (List (PC × ORes)) := match evalO fr x, optL fr lo, optL fr hi, optL fr mx with
  | some v, some l, some h, some m => (sliceX P t v l h m).map (oOne · hp)
  | _, _, _, _ => none
def oMakeSlice (P : Program) (nm : Nat) (fr : List SV) (pc : PC) (hp : Heap) (t : Nat) (l c : Operand) : Option (List (PC × ORes)) := match evalO fr l, evalO fr c with
  | some (.int .i64 a), some (.int .i64 b) => (makeX P nm pc hp t a b).map outsVH
  | _, _ => none
def opY (P : Program) (nm : Nat) (fr : List SV) (pc : PC) (hp : Heap) (o : Oper) : Option (List (PC × ORes)) :=
  match o.op with
  | .move x => (evalO fr x).map (oOne · hp)
  | .assign x => (evalO fr x).map (oOne · hp)
  | .pick c a b => oPick fr pc hp c a b
  | .alloc e => oAlloc P nm hp e
  | .box e x => oBox nm fr hp e x
  | .build t ps => oBuild P fr hp t ps
  | .buildSlice t len ps => oBuildSlice P nm fr hp t len ps
  | .load t x => oLoad P fr pc hp t x
  | .store t x y => oStore P fr pc hp t x y
  | .nilCheck x => oNil fr hp x
  | .binOp op t x y _ => oBin P fr pc hp op t x y
  | .unOp op _ x => oUn fr hp op x
  | .convert s d x => oConv P fr hp s d x
  | .makeFunc fn first caps => oMakeFunc fr hp fn first caps
  | .extract x i => oExtract fr hp x i
  | .fieldAddr s x f => oFieldAddr P fr pc hp s x f
  | .field s x f => oField P fr hp s x f
  | .indexAddr t x i => oIndexAddr P fr pc hp t x i
  | .slice t x lo hi mx => oSlice P fr hp t x lo hi mx
  | .makeSlice t l c => oMakeSlice P nm fr pc hp t l c
  | _ => opX P nm fr pc hp o
theorem opY_eq (P : Program) (nm : Nat) (fr : List SV) (pc : PC) (hp : Heap) (o : Oper) : opY P nm fr pc hp o = opX P nm fr pc hp o := by
  unfold opY
  split <;> (try rfl) <;> (rename_i h; unfold opX; rw [h]; rfl)

/-! the walk -/
def seqK (r : Rec) (lo sz f it : Nat) (b : Code) : Leaf → Option (List Leaf)
  | ⟨.normal, fr, pc, hp⟩ => r.code lo sz f it b fr pc hp
  | L => some [L]
def seqS (r : Rec) (lo sz f it : Nat) (a b : Code) (fr : List SV) (pc : PC) (hp : Heap) : Option (List Leaf) := match r.code lo sz f it a fr pc hp with
  | some ls => bindL (seqK r lo sz f it b) ls
  | none => none
def blockK (id : Nat) : Leaf → Leaf
  | ⟨.exit j, fr, pc, hp⟩ => if Nat.beq j id then ⟨.normal, fr, pc, hp⟩ else ⟨.exit j, fr, pc, hp⟩
  | L => L
def blockS (r : Rec) (lo sz f it id : Nat) (a : Code) (fr : List SV) (pc : PC) (hp : Heap) : Option (List Leaf) := match r.code lo sz f it a fr pc hp with
  | some ls => some (ls.map (blockK id))
  | none => none
def both : Option (List Leaf) → Option (List Leaf) → Option (List Leaf)
  | some as, some bs => some (as ++ bs)
  | _, _ => none
def condS (r : Rec) (lo sz f it : Nat) (x : Operand) (a b : Code) (fr : List SV) (pc : PC) (hp : Heap) : Option (List Leaf) := match evalO fr x with
  | some (.bool e) => match e.known pc with
    | some true => r.code lo sz f it a fr pc hp
    | some false => r.code lo sz f it b fr pc hp
    | none => both (r.code lo sz f it a fr (asm e true :: pc) hp) (r.code lo sz f it b fr (asm e false :: pc) hp)
  | _ => none
def loopC (O : Orac) (r : Rec) (lo sz f it : Nat) (a : Code) (fr : List SV) (pc : PC) (hp : Heap) : Option (List Leaf) :=
  let sub := sz / K0
  let nm := lo + (it * 2 ^ 20 + site a * 256 + 255) * sub
  match O.loop f (site a) nm fr pc hp with
  | some x => if Nat.ble (nm + sub) (lo + sz) && Nat.ble 64 sub then x else none
  | none => r.loop lo sz f (it * 128) O.unroll a [⟨.normal, fr, pc, hp⟩]
def regT (r : Rec) (lo sz f it rid : Nat) (ops : Array Oper) (fr : List SV) (pc : PC) (hp : Heap) : Option (List Leaf) :=
  if Region.noSelect ops then r.draw lo sz f it rid ops ops.size [(List.replicate ops.size false, [⟨.normal, fr, pc, hp⟩])] else none
def regH (P : Program) (O : Orac) (r : Rec) (lo sz f it rid : Nat) (ops : Array Oper) (fr : List SV) (pc : PC) (hp : Heap) : Option (Nat × List SV) :=
  headT P (opY P 0) (r.step lo sz f it rid ops) (lo + (it * 2 ^ 20 + rid * 256) * (sz / K0)) (sz / K0) hp pc ops fr (O.tail f rid)
def regS (P : Program) (O : Orac) (r : Rec) (lo sz f it rid : Nat) (ops : Array Oper) (fr : List SV) (pc : PC) (hp : Heap) : Bool → Option (List Leaf)
  | false => r.ops lo sz f it rid ops 0 ops.size [⟨.normal, fr, pc, hp⟩]
  | true => match regH P O r lo sz f it rid ops fr pc hp with
    | some (m, fr') => r.ops lo sz f it rid ops m (ops.size - m) [⟨.normal, fr', pc, hp⟩]
    | none => match ordT P (opY P 0) (r.step lo sz f it rid ops) (lo + (it * 2 ^ 20 + rid * 256) * (sz / K0)) (sz / K0) (lo + sz) hp pc ops fr (O.order f rid) with
      | some ls => some ls
      | none => regT r lo sz f it rid ops fr pc hp
def codeS (P : Program) (O : Orac) (r : Rec) (lo sz f it : Nat) (c : Code) (fr : List SV) (pc : PC) (hp : Heap) : Option (List Leaf) :=
  match c with
  | .skip => some [⟨.normal, fr, pc, hp⟩]
  | .ret => some [⟨.ret, fr, pc, hp⟩]
  | .exit id => some [⟨.exit id, fr, pc, hp⟩]
  | .seq a b => seqS r lo sz f it a b fr pc hp
  | .block id a => blockS r lo sz f it id a fr pc hp
  | .cond x a b => condS r lo sz f it x a b fr pc hp
  | .region rid ops b => regS P O r lo sz f it rid ops fr pc hp b
  | .loop a => loopC O r lo sz f it a fr pc hp
  | _ => none
def isNormal : Leaf → Bool
  | ⟨.normal, _, _, _⟩ => true
  | _ => false
def loopK (r : Rec) (lo sz f it : Nat) (c : Code) : Leaf → Option (List Leaf)
  | ⟨.normal, fr, pc, hp⟩ => r.code lo sz f (it + 1) c fr pc hp
  | L => some [L]
def loopR (r : Rec) (lo sz f it k : Nat) (c : Code) (ls : List Leaf) : Option (List Leaf) := match bindL (loopK r lo sz f it c) ls with
  | some ls' => r.loop lo sz f (it + 1) k c ls'
  | none => none
def loopS (r : Rec) (lo sz f it k : Nat) (c : Code) (ls : List Leaf) : Option (List Leaf) :=
  match ls.find? isNormal with
  | none => some ls
  | some _ => match k with
    | 0 => none
    | k + 1 => loopR r lo sz f it k c ls
def opsS (r : Rec) (lo sz f it rid : Nat) (ops : Array Oper) (j k : Nat) (ls : List Leaf) : Option (List Leaf) := match k with
  | 0 => some ls
  | k + 1 => match r.step lo sz f it rid ops j ls with
    | some ls' => r.ops lo sz f it rid ops (j + 1) k ls'
    | none => none
def stepN (o : Oper) (fr : List SV) (v : SV) (pc : PC) (hp : Heap) : Option (List Leaf) := some [⟨.normal, fput fr o.dst v, pc, hp⟩]
def stepV (o : Oper) (nm : Nat) (fr : List SV) (v : SV) (pc : PC) (hp : Heap) : Option (List Leaf) :=
  if makes o.op then (if avL nm (nm + 1) fr && pav nm (nm + 1) pc then stepN o fr v pc hp else none) else stepN o fr v pc hp
def stepB (o : Oper) (nm : Nat) (pc : PC) : Option (List Leaf) :=
  if makes o.op then (if pav nm (nm + 1) pc then some [⟨.bad, [], pc, []⟩] else none) else some [⟨.bad, [], pc, []⟩]
def stepCK (d : Option Nat) (fr : List SV) : CLeaf → Leaf
  | ⟨true, _, pc, _⟩ => ⟨.bad, [], pc, []⟩
  | ⟨false, v, pc, hp⟩ => ⟨.normal, fput fr d v, pc, hp⟩
/-- Two paths, the first one looked at at once. -/
def withPc {α : Type} (a b : PC) (k : PC → α) : α := match a with
  | [] => k b
  | [x] => k (x :: b)
  | x :: y :: l => k (x :: y :: (l ++ b))
theorem withPc_eq {α : Type} (a b : PC) (k : PC → α) : withPc a b k = k (a ++ b) := by
  unfold withPc
  split <;> rfl
def stepC (r : Rec) (o : Oper) (nm sub : Nat) (fr : List SV) (g : Nat) (args : List SV) (pc : PC) (hp : Heap) : Option (List Leaf) :=
  if makes o.op then none else
  if avL nm (nm + sub) fr then
    match r.call nm sub g args pc hp with
    | none => none
    | some cs => some (cs.map (stepCK o.dst fr))
  else none
def stepP (r : Rec) (o : Oper) (nm sub : Nat) (fr : List SV) (hp0 : Heap) (x : ORes) (pc : PC) : Option (List Leaf) := match x with
  | .fail => none
  | .val v hp => stepV o nm fr v pc hp
  | .skip hp => if makes o.op then none else stepN o fr (.tup []) pc hp
  | .bad => stepB o nm pc
  | .call g args => stepC r o nm sub fr g args pc hp0
def stepO (r : Rec) (o : Oper) (nm sub : Nat) (fr : List SV) (pc : PC) (hp0 : Heap) : PC × ORes → Option (List Leaf)
  | (q, x) => withPc q pc (stepP r o nm sub fr hp0 x)
def opZ (P : Program) (O : Orac) (nm : Nat) (fr : List SV) (pc : PC) (hp : Heap) (o : Oper) : Option (List (PC × ORes)) :=
  match pureOp o.op with
  | true => opY P nm fr pc hp o
  | false => match O.op nm fr pc hp o with
    | some r => some r
    | none => opY P nm fr pc hp o
theorem opZ_eq (P : Program) (O : Orac) (nm : Nat) (fr : List SV) (pc : PC) (hp : Heap) (o : Oper) : opZ P O nm fr pc hp o = opO P O nm fr pc hp o := by
  unfold opZ opO
  simp only [opY_eq]
  cases pureOp o.op <;> rfl
def stepM (P : Program) (O : Orac) (r : Rec) (o : Oper) (nm sub top : Nat) (fr : List SV) (pc : PC) (hp : Heap) : Option (List Leaf) :=
  if Nat.ble (nm + sub) top && Nat.ble 1 sub then
    match opZ P O nm fr pc hp o with
    | none => none
    | some outs => bindL (stepO r o nm sub fr pc hp) outs
  else none
def stepW2 (P : Program) (O : Orac) (r : Rec) (o : Oper) (lo sz it rid j : Nat) (fr : List SV) (hp : Heap) (w : Bool) (pc : PC) : Option (List Leaf) :=
  if w then stepM P O r o (lo + (it * 2 ^ 20 + rid * 256 + j) * (sz / K0)) (sz / K0) (lo + sz) fr pc hp
  else some [⟨.normal, fput fr o.dst (.tup []), pc, hp⟩]
def stepW (P : Program) (O : Orac) (r : Rec) (o : Oper) (lo sz it rid j : Nat) (fr : List SV) (pc : PC) (hp : Heap) : PC × Bool → Option (List Leaf)
  | (q, w) => withPc q pc (stepW2 P O r o lo sz it rid j fr hp w)
def stepL (P : Program) (O : Orac) (r : Rec) (ops : Array Oper) (o : Oper) (lo sz it rid j : Nat) : Leaf → Option (List Leaf)
  | ⟨.normal, fr, pc, hp⟩ => bindO (wantX ops fr pc o) (stepW P O r o lo sz it rid j fr pc hp)
  | L => some [L]
def stepS (P : Program) (O : Orac) (r : Rec) (lo sz _f it rid : Nat) (ops : Array Oper) (j : Nat) (ls : List Leaf) : Option (List Leaf) := match ops[j]? with
  | none => none
  | some o => bindL (stepL P O r ops o lo sz it rid j) ls
def callR (lo sz : Nat) (pc : PC) (hp : Heap) : Option (List SV) → Option (List CLeaf)
  | some vs => some [⟨false, oneOr vs, pc, clean lo (lo + sz) (oneOr vs) hp⟩]
  | none => none
def callL (P : Program) (fn : Func) (lo sz : Nat) : Leaf → Option (List CLeaf)
  | ⟨.normal, fr, pc, hp⟩ => callR lo sz pc hp (resX P fr hp fn.results.toList)
  | ⟨.ret, fr, pc, hp⟩ => callR lo sz pc hp (resX P fr hp fn.results.toList)
  | ⟨.bad, _, pc, _⟩ => some [⟨true, .tup [], pc, []⟩]
  | ⟨.exit _, _, _, _⟩ => none
def callB (P : Program) (r : Rec) (lo sz f : Nat) (fn : Func) (c : Code) (args : List SV) (pc : PC) (hp : Heap) : Option (List CLeaf) :=
  match r.code lo sz f 0 c (args ++ List.replicate (fn.ntmps - args.length) (.tup [])) pc hp with
  | none => none
  | some ls => bindL (callL P fn lo sz) ls
def callS (P : Program) (O : Orac) (r : Rec) (lo sz f : Nat) (args : List SV) (pc : PC) (hp : Heap) : Option (List CLeaf) :=
  match O.call f lo args pc hp with
  | some x => if Nat.ble 64 sz then x else none
  | none => match P.funcs[f]? with
    | none => none
    | some fn => match fn.body with
      | none => none
      | some c => callB P r lo sz f fn c args pc hp
def drawE (ops : Array Oper) : Front → Option (List Leaf)
  | [(l, t)] => if (readyX ops l).isEmpty then some t else none
  | _ => none
def drawS (r : Rec) (lo sz f it rid : Nat) (ops : Array Oper) (k : Nat) (F : Front) : Option (List Leaf) := match k with
  | 0 => drawE ops F
  | k + 1 => match r.level lo sz f it rid ops F [] with
    | some G => r.draw lo sz f it rid ops k G
    | none => none
def firstX (ops : Array Oper) (l : List Bool) (i : Nat) : Bool := (match ops[i]? with | some o => pureOp o.op && o.guard.isNone | none => false) && Region.free .any ops l.toArray i
def levelT (r : Rec) (lo sz f it rid : Nat) (ops : Array Oper) (l : List Bool) (t : List Leaf) (rest : Front) (is : List Nat) (G : Front) : Option Front := match r.side lo sz f it rid ops l t is G with
  | some G' => r.level lo sz f it rid ops rest G'
  | none => none
def levelS (r : Rec) (lo sz f it rid : Nat) (ops : Array Oper) (F G : Front) : Option Front := match F with
  | [] => some G
  | (l, t) :: rest => match (readyX ops l).find? (firstX ops l) with
    | some i => levelT r lo sz f it rid ops l t rest [i] G
    | none => match readyX ops l with
      | [] => none
      | is => levelT r lo sz f it rid ops l t rest is G
def sideS (r : Rec) (lo sz f it rid : Nat) (ops : Array Oper) (l : List Bool) (t : List Leaf) (is : List Nat) (G : Front) : Option Front := match is with
  | [] => some G
  | i :: is' => match r.step lo sz f it rid ops i t with
    | none => none
    | some t' => match merge (l.set i true) t' G with
      | none => none
      | some G' => r.side lo sz f it rid ops l t is' G'
def recS (P : Program) (O : Orac) (r : Rec) : Rec := ⟨codeS P O r, loopS r, opsS r, stepS P O r, callS P O r, drawS r, levelS r, sideS r⟩
def recN (P : Program) (O : Orac) : Nat → Rec
  | 0 => .zero
  | n + 1 => recS P O (recN P O n)

structure RecEq (P : Program) (O : Orac) (n : Nat) : Prop where
  code : ∀ lo sz f it c fr pc hp, (recN P O n).code lo sz f it c fr pc hp = codeX0 P O lo sz f n it c fr pc hp
  loop : ∀ lo sz f it k c ls, (recN P O n).loop lo sz f it k c ls = loopX0 P O lo sz f n it k c ls
  ops : ∀ lo sz f it rid ops j k ls, (recN P O n).ops lo sz f it rid ops j k ls = opsX0 P O lo sz f n it rid ops j k ls
  step : ∀ lo sz f it rid ops j ls, (recN P O n).step lo sz f it rid ops j ls = stepX0 P O lo sz f n it rid ops j ls
  call : ∀ lo sz f args pc hp, (recN P O n).call lo sz f args pc hp = callX0 P O lo sz n f args pc hp
  draw : ∀ lo sz f it rid ops k F, (recN P O n).draw lo sz f it rid ops k F = drawX0 P O lo sz f n it rid ops k F
  level : ∀ lo sz f it rid ops F G, (recN P O n).level lo sz f it rid ops F G = levelX0 P O lo sz f n it rid ops F G
  side : ∀ lo sz f it rid ops l t is G, (recN P O n).side lo sz f it rid ops l t is G = sideX0 P O lo sz f n it rid ops l t is G

theorem recN_eq (P : Program) (O : Orac) : ∀ n, RecEq P O n
  | 0 => { code := fun _ _ _ _ _ _ _ _ => rfl, loop := fun _ _ _ _ _ _ _ => rfl, ops := fun _ _ _ _ _ _ _ _ _ => rfl, step := fun _ _ _ _ _ _ _ _ => rfl,
           call := fun _ _ _ _ _ _ => rfl, draw := fun _ _ _ _ _ _ _ _ => rfl, level := fun _ _ _ _ _ _ _ _ => rfl, side := fun _ _ _ _ _ _ _ _ _ _ => rfl }
  | n + 1 => by
    have ih := recN_eq P O n
    refine { code := ?_, loop := ?_, ops := ?_, step := ?_, call := ?_, draw := ?_, level := ?_, side := ?_ }
    · intro lo sz f it c fr pc hp
      show codeS P O (recN P O n) lo sz f it c fr pc hp = _
      cases c with
      | region rid ops b =>
        have hst : (recN P O n).step lo sz f it rid ops = stepX0 P O lo sz f n it rid ops := by funext j ls; exact ih.step ..
        have hop : opY P 0 = opX P 0 := by funext fr pc hp o; exact opY_eq ..
        cases b
        · simp only [codeX0, codeS, regS, ih.ops]
        · simp only [codeX0, codeS, regS, regH, regT, ih.ops, ih.draw, hst, hop]; rfl
      | cond x a b => simp only [codeX0, codeS, condS, ih.code]; rfl
      | seq a b =>
        have : seqK (recN P O n) lo sz f it b = fun L => match L.ex with | .normal => codeX0 P O lo sz f n it b L.fr L.pc L.hp | _ => some [L] := by
          funext L; obtain ⟨ex, fr, pc, hp⟩ := L; cases ex <;> simp only [seqK, ih.code]
        simp only [codeX0, codeS, seqS, ih.code, this]; rfl
      | block id a =>
        have : blockK id = fun L => match L.ex with | .exit j => if Nat.beq j id then { L with ex := .normal } else L | _ => L := by
          funext L; obtain ⟨ex, fr, pc, hp⟩ := L; cases ex <;> rfl
        simp only [codeX0, codeS, blockS, ih.code, this]; rfl
      | loop a => simp only [codeX0, codeS, loopC, ih.loop]; rfl
      | _ => simp only [codeX0, codeS]
    · intro lo sz f it k c ls
      show loopS (recN P O n) lo sz f it k c ls = _
      rw [loopX0.eq_def]
      have h2 : loopK (recN P O n) lo sz f it c = fun L => match L.ex with | .normal => codeX0 P O lo sz f n (it + 1) c L.fr L.pc L.hp | _ => some [L] := by
        funext L; obtain ⟨ex, fr, pc, hp⟩ := L; cases ex <;> simp only [loopK, ih.code]
      have h3 : isNormal = fun L => match L.ex with | .normal => true | _ => false := by
        funext L; obtain ⟨ex, fr, pc, hp⟩ := L; cases ex <;> rfl
      unfold loopS
      rw [h3]
      show (match ls.find? _ with | none => _ | some _ => _) = (match ls.find? _ with | none => _ | some _ => _)
      cases ls.find? (fun L => match L.ex with | .normal => true | _ => false) with
      | none => rfl
      | some x =>
        cases k with
        | zero => rfl
        | succ k => simp only [loopR, h2, ih.loop]; rfl
    · intro lo sz f it rid ops j k ls
      show opsS (recN P O n) lo sz f it rid ops j k ls = _
      rw [opsX0.eq_def]
      simp only [opsS, ih.step, ih.ops]; rfl
    · intro lo sz f it rid ops j ls
      show stepS P O (recN P O n) lo sz f it rid ops j ls = _
      rw [stepX0]
      unfold stepS
      cases ops[j]? with
      | none => rfl
      | some o =>
        show bindL _ _ = bindL _ _
        congr 1
        funext L
        obtain ⟨ex, fr, pc, hp⟩ := L
        cases ex with
        | normal =>
          show bindO _ _ = bindO _ _
          congr 1
          funext w
          obtain ⟨q, w⟩ := w
          simp only [stepW, withPc_eq]
          unfold stepW2 stepM
          simp only [opZ_eq]
          cases w with
          | false => rfl
          | true =>
            simp only [if_true]
            split
            · cases opO P O (lo + (it * 2 ^ 20 + rid * 256 + j) * (sz / K0)) fr (q ++ pc) hp o with
              | none => rfl
              | some outs =>
                show bindL _ _ = bindL _ _
                congr 1
                funext x
                obtain ⟨q2, x⟩ := x
                have hck : ∀ d : Option Nat, stepCK d fr = fun c => if c.bad then ⟨.bad, [], c.pc, []⟩ else ⟨.normal, fput fr d c.v, c.pc, c.hp⟩ := by
                  intro d; funext c; obtain ⟨b, v, pc, hp⟩ := c; cases b <;> rfl
                simp only [stepO, withPc_eq]
                unfold stepP
                cases x <;> simp only [stepV, stepN, stepB, stepC, ih.call, hck] <;> rfl
            · rfl
        | _ => rfl
    · intro lo sz f args pc hp
      show callS P O (recN P O n) lo sz f args pc hp = _
      rw [callX0]
      have hL : ∀ fn : Func, callL P fn lo sz = fun L => match L.ex with
          | .normal | .ret => match resX P L.fr L.hp fn.results.toList with
            | some vs => some [⟨false, oneOr vs, L.pc, clean lo (lo + sz) (oneOr vs) L.hp⟩]
            | none => none
          | .bad => some [⟨true, .tup [], L.pc, []⟩]
          | .exit _ => none := by
        intro fn; funext L; obtain ⟨ex, fr, pc, hp⟩ := L; cases ex <;> (simp only [callL, callR] <;> rfl)
      simp only [callS, callB, ih.code, hL]; rfl
    · intro lo sz f it rid ops k F
      show drawS (recN P O n) lo sz f it rid ops k F = _
      rw [drawX0.eq_def]
      simp only [drawS, ih.level, ih.draw]; rfl
    · intro lo sz f it rid ops F G
      show levelS (recN P O n) lo sz f it rid ops F G = _
      rw [levelX0.eq_def]
      simp only [levelS, levelT, ih.side, ih.level]; rfl
    · intro lo sz f it rid ops l t is G
      show sideS (recN P O n) lo sz f it rid ops l t is G = _
      rw [sideX0.eq_def]
      simp only [sideS, ih.step, ih.side]; rfl

def codeX (P : Program) (O : Orac) (lo sz f n it : Nat) (c : Code) (fr : List SV) (pc : PC) (hp : Heap) : Option (List Leaf) := (recN P O n).code lo sz f it c fr pc hp
def callX (P : Program) (O : Orac) (lo sz n f : Nat) (args : List SV) (pc : PC) (hp : Heap) : Option (List CLeaf) := (recN P O n).call lo sz f args pc hp
theorem codeX_eq (P : Program) (O : Orac) (lo sz f n it : Nat) (c : Code) (fr : List SV) (pc : PC) (hp : Heap) : codeX P O lo sz f n it c fr pc hp = codeX0 P O lo sz f n it c fr pc hp := (recN_eq P O n).code ..
theorem callX_eq (P : Program) (O : Orac) (lo sz n f : Nat) (args : List SV) (pc : PC) (hp : Heap) : callX P O lo sz n f args pc hp = callX0 P O lo sz n f args pc hp := (recN_eq P O n).call ..

section
variable {P : Program} {G : Type} {O : Orac} {I : In G}
theorem x_code (pr : PR P) (oo : OOK P O I) {n lo sz f it : Nat} {c : Code} {fr : List SV} {pc : PC} {hp : Heap} {ls : List Leaf} (h : codeX P O lo sz f n it c fr pc hp = some ls) (hp0 : PartOf P f c) (B : Base) (ν0 : Env G) (ρ0 : Nat → Nat) (Q : Exit → Act → World → Prop) (hI : ν0.I = I) (hQ : NP Q)
    (hl : ∀ L ∈ ls, ∀ a w, SatL lo (lo + sz) ν0 ρ0 B L a w → LQ Q L.ex a w) (a : Act) (w : World) (hs : SatL lo (lo + sz) ν0 ρ0 B ⟨.normal, fr, pc, hp⟩ a w) : c.wp P Q a w :=
  (all_ok pr oo n).code (codeX_eq P O lo sz f n it c fr pc hp ▸ h) hp0 B ν0 ρ0 Q hI hQ hl a w hs
theorem x_call (pr : PR P) (oo : OOK P O I) {n lo sz f : Nat} {args : List SV} {pc : PC} {hp : Heap} {cs : List CLeaf} (h : callX P O lo sz n f args pc hp = some cs) (B : Base) (ν : Env G) (ρ : Nat → Nat) (w : World) (R : Ending → World → Prop) (hI : ν.I = I) (hpc : pcDen ν pc) (hw : HW B ν ρ hp w)
    (hc : ∀ c ∈ cs, ∀ ν' ρ' w', Agree lo (lo + sz) ν ν' ρ ρ' → pcDen ν' c.pc → c.bad = false ∧ (HW B ν' ρ' c.hp w' → R (.returned (c.v.den ν' ρ')) w')) : Calls P f (denL ν ρ args).toArray w R :=
  (all_ok pr oo n).call (callX_eq P O lo sz n f args pc hp ▸ h) B ν ρ w R hI hpc hw hc
end
/-- A call, from fuel enough. -/
def runX (P : Program) (O : Orac) (f : Nat) (args : List SV) (pc : PC) (hp : Heap) : Option (List CLeaf) :=
  callX P O LO LO 6000 f args pc hp
/-- A piece of a function's code. -/
def pieceX (P : Program) (O : Orac) (f : Nat) (c : Code) (fr : List SV) (pc : PC) (hp : Heap) : Option (List Leaf) :=
  codeX P O LO LO f 6000 0 c fr pc hp
end Go.Sy
end

section
namespace Go.Sy
open Go

section
variable {P : Program} {G : Type} {O : Orac} {I : In G}

/-- A call, by the executor. -/
theorem runX_calls (pr : PR P) (oo : OOK P O I) {f : Nat} {args : List SV} {pc : PC} {hp : Heap} {cs : List CLeaf} (h : runX P O f args pc hp = some cs) (B : Base) (ν : Env G) (ρ : Nat → Nat) (w : World) (R : Ending → World → Prop) (hI : ν.I = I)
    (hpc : pcDen ν pc) (hw : HW B ν ρ hp w)
    (hc : ∀ c ∈ cs, ∀ ν' ρ' w', Agree LO (LO + LO) ν ν' ρ ρ' → pcDen ν' c.pc → c.bad = false ∧ (HW B ν' ρ' c.hp w' → R (.returned (c.v.den ν' ρ')) w')) : Calls P f (denL ν ρ args).toArray w R :=
  x_call pr oo h B ν ρ w R hI hpc hw hc

/-- No oracle. -/
theorem noOrac_ok : OOK P noOrac I := ⟨fun h => by simp [noOrac] at h, fun _ h => by simp [noOrac] at h, fun h => by simp [noOrac] at h, fun _ h => by simp [noOrac] at h, fun _ h => by simp [noOrac] at h⟩

/-- No ghosts. -/
def In.none : In Unit := ⟨fun _ _ _ _ => 0, fun _ _ _ _ => false, fun _ _ _ _ => [], fun _ _ _ _ _ _ _ _ => (), fun _ _ _ => .bool false, fun _ _ _ => rfl, fun _ _ _ F => ∀ k, ¬ F k, fun h k hk => absurd hk (h k), fun h _ => h⟩

/-- The heap of which nothing is said. -/
theorem HW.empty (B : Base) (ν : Env G) (ρ : Nat → Nat) : HW B ν ρ [] B.w0 :=
  ⟨rfl, rfl, rfl, Nat.le_refl _, fun _ _ => rfl, by simp, ⟨fun _ _ => False, fun n b h => (List.not_mem_nil h).elim, fun n b k h => (List.not_mem_nil h).elim, fun n b m c k h => (List.not_mem_nil h).elim⟩⟩
end
end Go.Sy
end

section
namespace Go.Sy
open Go Go.RowKit Go.ChangeShapes Go.WideShapes Go.ChangeAt

theorem pcDen_cons_iff {G : Type} {ν : Env G} {c : SB} {b : Bool} {q : PC} : pcDen ν ((c, b) :: q) ↔ c.den ν = b ∧ pcDen ν q :=
  ⟨fun h => ⟨h c b (by simp), fun d x hm => h d x (by simp [hm])⟩, fun h => pcDen_cons h.1 h.2⟩
theorem pcDen_nil_iff {G : Type} {ν : Env G} : pcDen ν [] ↔ True := ⟨fun _ => trivial, fun _ => pcDen_nil ν⟩

/-- The base of a law: nothing old may turn. -/
def baseOf (w : World) : Base := ⟨w, fun _ => False⟩
theorem baseOf_own (w : World) (k : Nat) : (baseOf w).own k ↔ w.heap.size ≤ k := by simp [baseOf, Base.own]

theorem HW.below {G : Type} {ν : Env G} {ρ : Nat → Nat} {hp : Heap} {w w' : World} (h : HW (baseOf w) ν ρ hp w') : Below w.heap.size w w' :=
  ⟨h.os, h.tape, h.output, h.size, fun k hk => h.kept k (by rw [baseOf_own]; omega)⟩

/-- A law, by the executor. -/
theorem runX_law {P : Program} {G : Type} {O : Orac} {I : In G} (pr : PR P) (oo : OOK P O I) {f : Nat} {args : List SV} {pc : PC} {hp : Heap} {cs : List CLeaf} (h : runX P O f args pc hp = some cs) (w : World) (ν : Env G) (ρ : Nat → Nat) (hI : ν.I = I)
    (hpc : pcDen ν pc) (hw : HW (baseOf w) ν ρ hp w)
    (hc : ∀ c ∈ cs, ∀ ν' ρ', Agree LO (LO + LO) ν ν' ρ ρ' → pcDen ν' c.pc → c.bad = false ∧ c.v.den ν' ρ' = .bool true) : Calls P f (denL ν ρ args).toArray w fun e w' => e = .returned (.bool true) ∧ Below w.heap.size w w' :=
  runX_calls pr oo h (baseOf w) ν ρ w _ hI hpc hw fun c hm ν' ρ' w' hag hp' => by
    obtain ⟨h1, h2⟩ := hc c hm ν' ρ' hag hp'
    exact ⟨h1, fun hw' => ⟨by rw [h2], hw'.below⟩⟩

/-- The row's 'post', where nothing old has turned. -/
theorem post_of_below {H : Type} {enc : TypeId × Value → H} {P : Program} {f : Func} {s : ChangeSpec} {apart fresh handsOn again : Bool} {W W' : World} {args : Array Value} {v : Value} {ds gs : List (DataW H)} {before pa pv : List MemPlace}
    (hW : DataW.Whole enc P f.params.toList s.vars apart W args.toList ds gs before)
    (hres : ∀ (b : Nat) (sp : Nat → Bool) (hd : Bool), DataW.TrodAll enc P W' b sp hd f.resultTypes.toList (v.resultList f.resultTypes.size) (s.fn H (ds ++ gs)).results [])
    (hargs : ∀ sp : Nat → Bool, (∀ p ∈ before, sp p.block = true) → DataW.TrodAll enc P W' 0 sp true f.params.toList args.toList (s.fn H (ds ++ gs)).args pa)
    (hvars : ∀ sp : Nat → Bool, (∀ p ∈ before, sp p.block = true) → DataW.TrodVars enc P W' sp s.vars (s.fn H (ds ++ gs)).vars pv)
    (hps : before = pa ++ pv) (hB : Below W.heap.size W W')
    (hok : ∀ (j : Nat) (t : TypeId) (r : Value), f.resultTypes[j]? = some t → (v.resultList f.resultTypes.size)[j]? = some r → Value.okWide P W' .any 0 t r) :
    s.post enc P f apart fresh handsOn again W args v W' := by
  have hold : ∀ p ∈ before, (fun b => decide (b < W.heap.size)) p.block = true := fun p hp => by simpa using hW.lt p hp
  refine ⟨ds, gs, before, [], pa, pv, hW, hres _ _ _, hargs _ hold, hvars _ hold, World.keptBut_mono (fun p hp => ⟨hp, ?_⟩) (hB.frame _), fun _ => ?_⟩
  · rw [hps, List.mem_append] at hp
    exact Or.inr hp
  · have hlt := hW.lt
    obtain ⟨_, _, _, _, _, hz, hn⟩ := hW
    refine ⟨hok, _, _, ([] ++ pa) ++ pv, ⟨[] ++ pa, pv, trodAll_append (hargs _ (fun _ _ => rfl)) (hres _ _ _), hvars _ (fun _ _ => rfl), rfl, ?_, ?_⟩, ?_⟩
    · intro b off hp
      have hb : MemPlace.cell b off ∈ before := by rw [hps]; simpa using hp
      rw [hB.frozen (hlt _ hb)]
      exact hz b off hb
    · intro ha
      have := hn ha
      rw [hps] at this
      simpa using this
    · intro p hp _
      rw [hps]
      simpa using hp
end Go.Sy
end

section
namespace Go.Sy
open Go

/-! ### a row's closed facts, where the program's sign is long -/
theorem wordsSigns_word (r : List Char) : ∀ (w : List Char), w.all (fun c => !(c == Char.ofNat 32)) = true → wordsSigns (w ++ Char.ofNat 32 :: r) = w :: wordsSigns r
  | [], _ => by simp [wordsSigns]
  | c :: w, h => by
    simp only [List.all_cons, Bool.and_eq_true, Bool.not_eq_true', beq_eq_false_iff_ne] at h
    have ih := wordsSigns_word r w h.2
    rw [List.cons_append, wordsSigns, ih]
    exact h.1

def sgnA : List Char := List.map Char.ofNat [104, 97, 114, 110, 101, 115, 115]
def sgnC : List Char := List.map Char.ofNat [99, 117, 116]
/-- The sign: the harness's word, a sum, 'cut', the rest. -/
def signOf (b r : List Char) : List Char := sgnA ++ Char.ofNat 32 :: (b ++ Char.ofNat 32 :: (sgnC ++ Char.ofNat 32 :: r))

theorem words_of {P : Program} {b r : List Char} (h : P.initOrder = String.ofList (signOf b r)) (hb : b.all (fun c => !(c == Char.ofNat 32)) = true) (hs : isSumSigns b = true) : behindMainWord (wordsSigns P.initOrder.toList) = sgnC :: wordsSigns r := by
  rw [h, String.toList_ofList, signOf, wordsSigns_word _ sgnA (by decide +kernel), wordsSigns_word _ b hb, wordsSigns_word _ sgnC (by decide +kernel)]
  have h : ((sgnA == "harness".toList || sgnA == "ownmain".toList) && isSumSigns b) = true := by rw [hs]; decide +kernel
  simp only [behindMainWord, h, if_true]

theorem make_of {P : Program} {r : List (List Char)} (h : behindMainWord (wordsSigns P.initOrder.toList) = sgnC :: r) : P.make = some .cut := by
  unfold Program.make
  rw [h]
  dsimp only
  rw [if_neg (by decide +kernel), if_pos (by simp only [Bool.or_eq_true]; left; decide +kernel)]

theorem strip_cut (r : List (List Char)) : stripLifts liftWords (sgnC :: r) = ([], sgnC :: r) := by
  have h : ∀ o ∈ liftWords, (sgnC == o.toList) = false := by decide +kernel
  generalize liftWords = l at h
  induction l with
  | nil => rfl
  | cons o os ih =>
    unfold stripLifts
    rw [if_neg (by rw [h o (by simp)]; simp), ih (fun o' h' => h o' (by simp [h']))]

theorem headLifts_of {P : Program} {r : List (List Char)} (h : behindMainWord (wordsSigns P.initOrder.toList) = sgnC :: r) : P.headLifts = [] := by
  unfold Program.headLifts
  rw [h, strip_cut]
  simp

theorem liftsFinal_of {P : Program} {r : List (List Char)} (h : behindMainWord (wordsSigns P.initOrder.toList) = sgnC :: r) : P.liftsFinal = false := by
  unfold Program.liftsFinal
  rw [h, headLifts_of h]
  have h : (sgnC == "carried".toList) = false := by decide +kernel
  simp only [List.head?_cons, List.contains_nil, Bool.or_false]
  have h2 : (some sgnC == some "carried".toList) = false := by decide +kernel
  rw [h2, Bool.false_and]

theorem mayEnter_of {P : Program} {r : List (List Char)} (h : behindMainWord (wordsSigns P.initOrder.toList) = sgnC :: r) (h1 : P.laysLater = false) (h2 : P.bearsReflect = false) (h3 : P.doorFits [] = true) : P.mayEnter = true := by
  unfold Program.mayEnter
  rw [h]
  dsimp only
  rw [strip_cut]
  simp only [h1, h2, h3]
  simp
  exact Or.inr (by decide +kernel)

theorem headOf {P : Program} {r : List (List Char)} (h : behindMainWord (wordsSigns P.initOrder.toList) = sgnC :: r) {c : OpenClaim} (h1 : P.laysLater = false) (h2 : P.bearsReflect = false) (h3 : P.doorFits [] = true) (h4 : c.lifted = false) (h5 : c.make = .cut) :
    P.mayEnter = true ∧ c.lifted = P.liftsFinal ∧ P.make = some c.make :=
  ⟨mayEnter_of h h1 h2 h3, h4.trans (liftsFinal_of h).symm, by rw [make_of h, h5]⟩

/-- The facts of the program alone. -/
structure ProgFacts (P : Program) : Prop where
  laid : laidOutB P = true
  rowed : mapsRowed P = true
  stops : P.stops = []
  knobs : P.stopKnobs = []
  keys : P.plainKeys = true
  heard : P.stopsHeard = true
  enter : P.mayEnter = true
  final : P.liftsFinal = false
  make : P.make = some .cut

theorem joined_of {P : Program} {f : FuncId} {fn : Func} {s : ChangeSpec} {c : OpenClaim} (p : ProgFacts P)
    (a1 : (c.wf (OpenSpec.ofChange s) && fn.params.all (P.readableRec ·) && namedTie P c.named s.vars && s.vars.all (P.varReadable ·)) = true) (a2 : c.stops = [] ∧ c.knobs = [] ∧ c.lifted = false ∧ c.make = .cut ∧ c.plainKeys = true ∧ c.shortTexts = none)
    (b1 : c.inPlace = P.inPlace f) (b2 : c.unfollowed = P.unfollowed f) (b3 : c.recurses = P.recurses f) (b4 : c.named = P.varsNamed f)
    (d1 : ((fn.params.toList ++ s.plain.varTypes P).any (P.mapsRec ·) == c.maps && (fn.params.toList ++ s.plain.varTypes P).any (P.ifacesRec ·) == c.ifaces && P.mapsAmong fn.resultTypes.toList == c.mapsOut) = true)
    (d2 : ((fn.params.toList ++ s.plain.varTypes P).any (P.loopsFrom ·) == c.loops && (fn.params.toList ++ s.plain.varTypes P ++ fn.resultTypes.toList).any (P.wideKeysFrom ·) == c.wideKeys) = true)
    (d3 : (fn.resultTypes.all (fun t => P.readableRec t && decide (t < P.types.size)) && fn.resultTypes.toList.any (P.ifacesRec ·) == c.ifacesOut && fn.resultTypes.toList.any (P.loopsFrom ·) == c.loopsOut) = true)
    (d4 : c.kinds = (if c.domain.isEmpty then [] else fn.params.toList.map fun t => match P.underlying t with | some (.int k) => some k | _ => none) ∧ c.pinned = c.pinnedBy)
    (d5 : ((fn.params.toList ++ s.plain.varTypes P ++ fn.resultTypes.toList).any (P.veiledRec ·) == c.veiled && c.veiledFits P fn.params.toList (fn.params.toList ++ s.plain.varTypes P ++ fn.resultTypes.toList)) = true) : joinedFacts P f fn s c = true := by
  simp only [Bool.and_eq_true, beq_iff_eq] at a1 d1 d2 d3 d5
  simp only [joinedFacts, Bool.and_eq_true, beq_iff_eq]
  obtain ⟨a21, a22, a23, a24, a25, a26⟩ := a2
  simp only [a1, a21, a22, a23, a24, a25, a26, ← b1, ← b2, ← b3, ← b4, d1, d2, d3, d5, d4.1, d4.2, p.laid, p.rowed, p.stops, p.knobs, p.keys, p.heard, p.enter, p.final, p.make, and_self, true_and, and_true, Option.isNone_none]
  rfl
end Go.Sy
end

section
namespace Go.Sy
open Go Go.RowKit Go.ChangeShapes Go.WideShapes Go.ChangeAt

section
variable {H : Type} {enc : TypeId × Value → H} {P : Program}

/-- All arguments read as they did. -/
theorem trodAll_stays (hl : laidOutB P = true) {W W' : World} {sp : Nat → Bool} : ∀ {ts : List TypeId} {vs : List Value} {ds : List (DataW H)} {ps : List MemPlace}, (∀ t ∈ ts, P.readableRec t = true ∧ t < P.types.size) →
    DataW.TrodAll enc P W 0 (fun _ => true) true ts vs ds ps → (∀ p ∈ ps, W.sameAt W' p) → (∀ p ∈ ps, sp p.block = true) → DataW.TrodAll enc P W' 0 sp true ts vs ds ps
  | [], vs, ds, ps, _, h, _, _ => by
    obtain ⟨rfl, rfl, rfl⟩ := trodAll_nil h
    exact trodAll_mk0
  | t :: ts, vs, ds, ps, hr, h, hs, hb => by
    obtain ⟨v, vs', d, ds', p, q, rfl, rfl, rfl, h1, h2⟩ := trodAll_cons h
    exact trodAll_cons_mk (WideElems.Trod_stays hl (hr t (by simp)).1 (hr t (by simp)).2 h1 (fun x hx => hs x (by simp [hx])) (fun x hx => hb x (by simp [hx])))
      (trodAll_stays hl (fun t' ht => hr t' (by simp [ht])) h2 (fun x hx => hs x (by simp [hx])) (fun x hx => hb x (by simp [hx])))

theorem trodAll_length {W : World} {b : Nat} {sp : Nat → Bool} {hd : Bool} : ∀ {ts : List TypeId} {vs : List Value} {ds : List (DataW H)} {ps : List MemPlace}, DataW.TrodAll enc P W b sp hd ts vs ds ps → ds.length = ts.length
  | [], _, _, _, h => by obtain ⟨_, rfl, _⟩ := trodAll_nil h; rfl
  | t :: ts, _, _, _, h => by
    obtain ⟨v, vs', d, ds', p', q', _, rfl, _, _, h2⟩ := trodAll_cons h
    simp [trodAll_length h2]

/-- The lift of a law: of any parameters. -/
theorem law_lifted {C : Checked} (pf : ProgFacts C.prog) {os : Os} {f : FuncId} {fn : Func} {s : ChangeSpec} {conds : List PathCond} {tb : TypeId} (own : ownKnob C.prog.godebug = none) (started : os.Started) (noInit : C.prog.inits.idxOf? f = none) (hfn : C.prog.funcs[f]? = some fn)
    (witness : ∃ (w : World) (tape : Tape) (i : Input), w.os = os ∧ (w.forCall tape i).Shaped C.prog ∧ i.vars = [] ∧ Input.okWide C.prog (w.forCall tape i) .any w.heap.size f i ∧
      s.pre6 enc C.prog fn conds false (w.forCall tape i).memory i.args ∧ ({} : Assume).holds C.prog (lone (Frame.enter C.prog f i.args .normal) [] (w.forCall tape i)))
    (hvars : s.vars = []) (hspec : ∀ ds : List (DataW H), ds.length = fn.params.toList.length → s.fn H ds = { results := [.lit (.bool true)], args := ds })
    (hb : C.prog.underlying tb = some .bool) (hres : fn.resultTypes = #[tb]) (hps : fn.params.toList.all (fun t => C.prog.readableRec t && decide (t < C.prog.types.size)) = true)
    (walk : ∀ (W : World) (base : Nat) (args : Array Value) (ds : List (DataW H)) (p : List MemPlace), (∀ (j : Nat) t v, fn.params[j]? = some t → args[j]? = some v → Value.okWide C.prog W .any base t v) →
      DataW.TrodAll enc C.prog W 0 (fun _ => true) true fn.params.toList args.toList ds p → (∀ x ∈ p, x.block < W.heap.size) → Calls C.prog f args W fun e w' => e = .returned (.bool true) ∧ Below W.heap.size W w') :
    ReturnsInHanded {} C os f .any (s.pre6 enc C.prog fn conds false) (s.post enc C.prog fn false true false false) := by
  refine returnsInHanded_of_change (C := C) own started noInit hfn witness ?_
  intro W base args ds gs before hval hW _ _
  have hW' := hW
  have hlt := hW.lt
  obtain ⟨p, q, hA, hV, rfl, hfz, hnd⟩ := hW
  rw [hvars] at hV
  obtain ⟨rfl, rfl⟩ := trodVars_none hV
  have hlen : ds.length = fn.params.toList.length := trodAll_length hA
  refine (walk W base args ds p hval hA (fun x hx => hlt x (by simp [hx]))).mono fun e W' ⟨he, hg⟩ => ?_
  subst he
  have hsp := hspec ds hlen
  refine ⟨_, rfl, post_of_below (pa := p) (pv := []) hW' (fun b sp hd => ?_) (fun sp hsp' => ?_) (fun sp _ => ?_) rfl hg ?_⟩
  · simp only [List.append_nil, hsp, hres]
    exact trodAll_cons_mk (shut_bool hb _) trodAll_mk0
  · simp only [List.append_nil, hsp]
    refine trodAll_stays pf.laid (fun t ht => ?_) hA (fun x hx => hg.same (hlt x (by simp [hx]))) (fun x hx => hsp' x (by simp [hx]))
    have := List.all_eq_true.1 hps t ht
    simp only [Bool.and_eq_true, decide_eq_true_eq] at this
    exact this
  · rw [hvars, List.append_nil, hsp]; exact rfl
  · rw [show (#[tb] : Array TypeId) = #[tb] from rfl] at hres
    exact ok_one hres rfl (okWide_bool_mk hb _)
end
end Go.Sy
end

section
namespace Go.Sy
open Go Go.RowKit Go.ChangeShapes Go.WideShapes Go.ChangeAt

/-! ### leaves that say yes of themselves -/
def CLeaf.yes (c : CLeaf) : Bool := !c.bad && (match c.v with | .bool (.lit b) => b | _ => false)
/-- The leaves that do not. -/
def restOf : Option (List CLeaf) → Option (List (Bool × SV × PC))
  | some cs => some ((cs.filter fun c => !c.yes).map fun c => (c.bad, c.v, c.pc))
  | none => none

theorem law_rest {P : Program} {G : Type} {O : Orac} {I : In G} (pr : PR P) (oo : OOK P O I) {f : Nat} {args : List SV} {pc : PC} {hp : Heap} {l : List (Bool × SV × PC)} (h : restOf (runX P O f args pc hp) = some l) (w : World) (ν : Env G) (ρ : Nat → Nat) (hI : ν.I = I)
    (hpc : pcDen ν pc) (hw : HW (baseOf w) ν ρ hp w)
    (hc : ∀ c ∈ l, ∀ ν' ρ', Agree LO (LO + LO) ν ν' ρ ρ' → pcDen ν' c.2.2 → c.1 = false ∧ c.2.1.den ν' ρ' = .bool true) : Calls P f (denL ν ρ args).toArray w fun e w' => e = .returned (.bool true) ∧ Below w.heap.size w w' := by
  cases hr : runX P O f args pc hp with
  | none => rw [hr] at h; cases h
  | some cs =>
    rw [hr] at h
    simp only [restOf, Option.some.injEq] at h
    refine runX_law pr oo hr w ν ρ hI hpc hw fun c hm ν' ρ' hag hp' => ?_
    cases hy : c.yes with
    | true =>
      simp only [CLeaf.yes, Bool.and_eq_true, Bool.not_eq_true'] at hy
      refine ⟨hy.1, ?_⟩
      have h2 := hy.2
      split at h2
      · rename_i b hb; subst h2; rw [hb]; simp [SV.den, SB.den]
      · cases h2
    | false =>
      exact hc (c.bad, c.v, c.pc) (by rw [← h]; exact List.mem_map.2 ⟨c, List.mem_filter.2 ⟨hm, by simp [hy]⟩, rfl⟩) ν' ρ' hag hp'

theorem law_auto {P : Program} {G : Type} {O : Orac} {I : In G} (pr : PR P) (oo : OOK P O I) {f : Nat} {args : List SV} {pc : PC} {hp : Heap} (h : restOf (runX P O f args pc hp) = some []) (w : World) (ν : Env G) (ρ : Nat → Nat) (hI : ν.I = I)
    (hpc : pcDen ν pc) (hw : HW (baseOf w) ν ρ hp w) : Calls P f (denL ν ρ args).toArray w fun e w' => e = .returned (.bool true) ∧ Below w.heap.size w w' :=
  law_rest pr oo h w ν ρ hI hpc hw fun c hm => (List.not_mem_nil hm).elim

/-! ### arguments -/
theorem HW.addView {G : Type} {B : Base} {ν : Env G} {ρ : Nat → Nat} {hp : Heap} {w : World} (h : HW B ν ρ hp w) {n : Nat} {k : IntKind} {o : SI} {l : SL} (hn : n ∉ hp.map (·.1)) (hno : ¬ B.own (ρ n)) (h0 : 0 ≤ o.den ν)
    (hc : ∀ j x, (l.den ν)[j]? = some x → B.w0.cell? ⟨ρ n, (o.den ν).toNat + j, none⟩ = some (.int k x)) : HW B ν ρ ((n, .view k o l) :: hp) w := by
  obtain ⟨F, h1, h2, h3⟩ := h.foot
  refine ⟨h.os, h.tape, h.output, h.size, h.kept, by simp only [List.map_cons, List.nodup_cons]; exact ⟨hn, h.nd⟩, fun m => if m = n then fun _ => False else F m, fun m b hm => ?_, fun m b j hm hj => ?_, fun m b m' b' j hm hm' hj hj' => ?_⟩
  · rcases List.mem_cons.1 hm with hm | hm
    · cases hm
      simp only [if_true, BlkDen]
      exact ⟨fun _ hf => hf, hno, h0, hc⟩
    · have : m ≠ n := fun e => hn (List.mem_map.2 ⟨_, hm, e⟩)
      simp only [this, if_false]
      exact h1 m b hm
  · rcases List.mem_cons.1 hm with hm | hm
    · cases hm; simp at hj
    · have : m ≠ n := fun e => hn (List.mem_map.2 ⟨_, hm, e⟩)
      simp only [this, if_false] at hj
      exact h2 m b j hm hj
  · rcases List.mem_cons.1 hm with hm | hm
    · cases hm; simp at hj
    · rcases List.mem_cons.1 hm' with hm' | hm'
      · cases hm'; simp at hj'
      · have e1 : m ≠ n := fun e => hn (List.mem_map.2 ⟨_, hm, e⟩)
        have e2 : m' ≠ n := fun e => hn (List.mem_map.2 ⟨_, hm', e⟩)
        simp only [e1, e2, if_false] at hj hj'
        exact h3 m b m' b' j hm hm' hj hj'

section
variable {H : Type} {enc : TypeId × Value → H} {P : Program} {W : World}

/-- A slice of integers that came in: nil; empty, of whatever address; a row's part. -/
theorem arg_ints {t e : TypeId} {k : IntKind} (ht : P.underlying t = some (.slice e)) (he : P.underlying e = some (.int k)) (hc : P.cellsOf e = 1) {r : Reach} {b0 : Nat} {v : Value} {d : DataW H} {ps : List MemPlace} (hok : Value.okWide P W r b0 t v)
    (h : DataW.Trod enc P W 0 (fun _ => true) true t v d ps) :
    v = .slice none 0 0 ∨ (∃ a, v = .slice (some a) 0 0) ∨ ∃ (g o cap : Nat) (xs : List Int), v = .slice (some ⟨g, o, none⟩) xs.length cap ∧ g < W.heap.size ∧ xs.length ≤ cap ∧ cap ≤ maxLen ∧
      (∀ j x, xs[j]? = some x → W.cell? ⟨g, o + j, none⟩ = some (.int k x)) ∧ ∀ x ∈ xs, (Lit.int k x).wf = true := by
  obtain ⟨a0, l0, c0, rfl⟩ := okWide_slice ht hok
  obtain ⟨fuel, hf⟩ := h
  rcases open_ints ht he hc hf with ⟨hcs, _⟩ | ⟨a, len, cap, zs, hcs, _, hle, hmax, hlen, _, hcell, hwf⟩
  · left; simpa [Value.cells] using hcs
  · right
    simp only [Value.cells, List.cons.injEq, Value.slice.injEq, and_true] at hcs
    obtain ⟨rfl, rfl, rfl⟩ := hcs
    simp only [if_true] at hlen
    rcases Nat.eq_zero_or_pos c0 with h0 | h0
    · left
      have : l0 = 0 := by omega
      subst h0 this
      exact ⟨a, rfl⟩
    · right
      have hc0 := hcell 0 (by omega)
      have hsp : a.spot = none := World.cell?_spot (a := a) (by simpa [Addr.add] using hc0)
      obtain ⟨g, o, sp⟩ := a
      simp only at hsp
      subst hsp
      have hl : (zs.take l0).length = l0 := by rw [List.length_take]; omega
      refine ⟨g, o, c0, zs.take l0, by rw [hl], ?_, by omega, hmax, fun j x hx => ?_, fun x hx => hwf x (List.mem_of_mem_take hx)⟩
      · exact World.block_lt_of_cell? W ⟨g, o, none⟩ (by simpa [Addr.add] using hc0)
      · rw [List.getElem?_take] at hx
        split at hx
        · rename_i hj
          have hj2 : j < zs.length := (List.getElem?_eq_some_iff.1 hx).1
          have := hcell j hj2
          rw [add_none] at this
          rw [this, List.getD_eq_getElem?_getD, hx]
          rfl
        · cases hx
end
end Go.Sy
end

section
namespace Go.Sy
open Go Go.RowKit

theorem Agree.symm {G : Type} {lo hi : Nat} {ν ν' : Env G} {ρ ρ' : Nat → Nat} (h : Agree lo hi ν ν' ρ ρ') : Agree lo hi ν' ν ρ' ρ :=
  ⟨h.I.symm, fun n hn => (h.g n hn).symm, fun n hn => (h.i n hn).symm, fun n hn => (h.b n hn).symm, fun n hn => (h.v n hn).symm, fun n hn => (h.l n hn).symm, fun n hn => (h.e n hn).symm, fun n hn => (h.r n hn).symm⟩

theorem HW.agree {G : Type} {B : Base} {lo hi : Nat} {ν ν' : Env G} {ρ ρ' : Nat → Nat} {hp : Heap} {w : World} (hag : Agree lo hi ν ν' ρ ρ') (hv : hav lo hi hp = true) (h : HW B ν ρ hp w) : HW B ν' ρ' hp w :=
  ⟨h.os, h.tape, h.output, h.size, h.kept, h.nd, by
    obtain ⟨F, h1, h2, h3⟩ := h.foot
    exact ⟨F, fun n b hm => BlkDen.agree hag (hav_mem hv n b hm).2 (hav_mem hv n b hm).1 (h1 n b hm), h2, h3⟩⟩

/-- What is said of a world is true of one that has new blocks alone. -/
theorem HW.later {G : Type} {B : Base} {ν : Env G} {ρ : Nat → Nat} {hp : Heap} {w w' : World} (h : HW B ν ρ hp w) (hb : Below w.heap.size w w') : HW B ν ρ hp w' := by
  obtain ⟨F, h1, h2, h3⟩ := h.foot
  refine ⟨hb.os.trans h.os, hb.tape.trans h.tape, hb.output.trans h.output, Nat.le_trans h.size hb.size, fun k hk => ?_, h.nd, F, fun n b hm => BlkDen.world (fun k hk => hb.block k (BlkDen.lt (h1 n b hm) hk)) (h1 n b hm), h2, h3⟩
  have hlt : k < w.heap.size := by
    rcases Nat.lt_or_ge k w.heap.size with hl | hl
    · exact hl
    · exact absurd (.inl (Nat.le_trans h.size hl)) hk
  rw [hb.block k hlt]
  exact h.kept k hk

section
variable {P : Program} {G : Type} {O : Orac} {I : In G}

def NormalTo (K : Act → World → Prop) (Q : Exit → Act → World → Prop) : SEx → Act → World → Prop
  | .normal, a, w => K a w
  | .exit i, a, w => Q (.exit i) a w
  | .ret, a, w => Q .ret a w
  | .bad, _, _ => False

/-- A loop, by the executor: 'frI, pcI, hpI': the state at a round's head, in names of [nm, nm + sub); 'J': what holds of the names; 'm': what each round lowers. -/
theorem loop_rule (pr : PR P) (oo : OOK P O I) {f : Nat} {a : Code} (hpart : PartOf P f a) {nm sub lo sz n it : Nat} {frI : List SV} {pcI : PC} {hpI : Heap} {lsB : List Leaf} (hbody : codeX P O lo sz f n it a frI pcI hpI = some lsB)
    (J : Env G → Prop) (m : Env G → Nat) {B : Base} {ν : Env G} {ρ : Nat → Nat} {Q : Exit → Act → World → Prop} (hQ : NP Q) (hI : ν.I = I)
    (round : ∀ L ∈ lsB, ∀ ν1 ρ1 ν2 ρ2, Agree nm (nm + sub) ν ν1 ρ ρ1 → J ν1 → pcDen ν1 pcI → Agree lo (lo + sz) ν1 ν2 ρ1 ρ2 → pcDen ν2 L.pc → ∀ act w, (NotBad L.ex → FR ν2 ρ2 L.fr act ∧ HW B ν2 ρ2 L.hp w) →
      NormalTo (fun act w => ∃ ν3 ρ3, Agree nm (nm + sub) ν ν3 ρ ρ3 ∧ J ν3 ∧ pcDen ν3 pcI ∧ m ν3 < m ν1 ∧ FR ν3 ρ3 frI act ∧ HW B ν3 ρ3 hpI w) Q L.ex act w)
    (act : Act) (w : World) (start : ∃ ν1 ρ1, Agree nm (nm + sub) ν ν1 ρ ρ1 ∧ J ν1 ∧ pcDen ν1 pcI ∧ FR ν1 ρ1 frI act ∧ HW B ν1 ρ1 hpI w) : (Code.loop a).wp P Q act w := by
  obtain ⟨ν0, ρ0, g1, g2, g3, g4, g5⟩ := start
  refine wp_loop_ghost (fun k act w => ∃ ν1 ρ1, Agree nm (nm + sub) ν ν1 ρ ρ1 ∧ J ν1 ∧ pcDen ν1 pcI ∧ m ν1 = k ∧ FR ν1 ρ1 frI act ∧ HW B ν1 ρ1 hpI w) (m ν0) ⟨ν0, ρ0, g1, g2, g3, rfl, g4, g5⟩ ?_
  rintro k act w ⟨ν1, ρ1, h1, h2, h3, h4, h5, h6⟩
  refine x_code pr oo hbody hpart B ν1 ρ1 (Exit.then _ Q) (h1.I.trans hI) (fun ch a w hq => hQ ch a w hq) ?_ act w ⟨ν1, ρ1, Agree.refl _ _ _ _, h3, fun _ => ⟨h5, h6⟩⟩
  rintro L hL act' w' ⟨ν2, ρ2, k1, k2, k3⟩
  have := round L hL ν1 ρ1 ν2 ρ2 h1 h2 h3 k1 k2 act' w' k3
  cases hex : L.ex with
  | normal =>
    rw [hex] at this
    obtain ⟨ν3, ρ3, e1, e2, e3, e4, e5, e6⟩ := this
    exact ⟨m ν3, by omega, ν3, ρ3, e1, e2, e3, rfl, e5, e6⟩
  | exit i => rw [hex] at this; exact this
  | ret => rw [hex] at this; exact this
  | bad => rw [hex] at this; exact this
end
end Go.Sy
end

section
namespace Go.Sy
open Go Go.RowKit

/-! ### contracts as oracles -/
section
variable {P : Program} {G : Type} {O : Orac} {I : In G}

/-- Of function g: these leaves. -/
def Orac.withCall (O : Orac) (g : Nat) (k : Nat → List SV → PC → Heap → Option (List CLeaf)) : Orac :=
  { O with call := fun f lo args pc hp => if Nat.beq f g then some (k lo args pc hp) else O.call f lo args pc hp }

theorem withCall_ok (oo : OOK P O I) {g : Nat} {k : Nat → List SV → PC → Heap → Option (List CLeaf)}
    (h : ∀ {lo : Nat} {args : List SV} {pc : PC} {hp : Heap} {cs : List CLeaf}, k lo args pc hp = some cs → ∀ (sz : Nat), 64 ≤ sz → ∀ (B : Base) (ν : Env G) (ρ : Nat → Nat) (w : World) (R : Ending → World → Prop), ν.I = I → pcDen ν pc → HW B ν ρ hp w →
      (∀ c ∈ cs, ∀ ν' ρ' w', Agree lo (lo + sz) ν ν' ρ ρ' → pcDen ν' c.pc → c.bad = false ∧ (HW B ν' ρ' c.hp w' → R (.returned (c.v.den ν' ρ')) w')) → Calls P g (denL ν ρ args).toArray w R) : OOK P (O.withCall g k) I where
  call := by
    intro f lo args pc hp cs ho
    unfold Orac.withCall at ho
    simp only at ho
    split at ho
    · rename_i hb
      have hb := Nat.eq_of_beq_eq_true hb
      subst hb
      exact h (Option.some.inj ho)
    · exact oo.call ho
  loop := oo.loop
  op := oo.op
  tail := oo.tail
  order := oo.order

/-- A call that changes nothing old, and hands back what is said. -/
theorem pure_call {g : Nat} {args : List SV} {v : SV} {hp : Heap} {lo sz : Nat} {B : Base} {ν : Env G} {ρ : Nat → Nat} {w : World} {R : Ending → World → Prop} {pc : PC} {cs : List CLeaf} (hpc : pcDen ν pc) (hw : HW B ν ρ hp w)
    (hc : ∀ c ∈ cs, ∀ ν' ρ' w', Agree lo (lo + sz) ν ν' ρ ρ' → pcDen ν' c.pc → c.bad = false ∧ (HW B ν' ρ' c.hp w' → R (.returned (c.v.den ν' ρ')) w')) (hm : (⟨false, v, pc, hp⟩ : CLeaf) ∈ cs)
    (h : Calls P g (denL ν ρ args).toArray w fun e w' => e = .returned (v.den ν ρ) ∧ Below w.heap.size w w') : Calls P g (denL ν ρ args).toArray w R :=
  h.mono fun e w' ⟨he, hb⟩ => by
    subst he
    exact (hc _ hm ν ρ w' (Agree.refl _ _ _ _) hpc).2 (hw.later hb)

/-- All loops in a piece of code. -/
def loops : Code → List Code
  | .seq a b => loops a ++ loops b
  | .cond _ a b => loops a ++ loops b
  | .block _ a => loops a
  | .loop a => a :: loops a
  | _ => []

theorem loops_part {a c : Code} (h : Part a c) : ∀ x ∈ loops a, x ∈ loops c := by
  induction h with
  | refl => exact fun x hx => hx
  | seqL _ ih => exact fun x hx => ih x (by simp [loops, hx])
  | seqR _ ih => exact fun x hx => ih x (by simp [loops, hx])
  | block _ ih => exact fun x hx => ih x (by simp [loops, hx])
  | loop _ ih => exact fun x hx => ih x (by simp [loops, hx])
  | condL _ ih => exact fun x hx => ih x (by simp [loops, hx])
  | condR _ ih => exact fun x hx => ih x (by simp [loops, hx])

def bodyOf (P : Program) (f : Nat) : Code := match P.funcs[f]? with | some fn => fn.body.getD .skip | none => .skip
/-- The loops of a function at a site. -/
def loopsAt (P : Program) (f s : Nat) : List Code := (loops (bodyOf P f)).filter fun b => Nat.beq (site b) s
def loopAt (P : Program) (f s : Nat) : Code := (loopsAt P f s).headD .skip

theorem loop_is {f s : Nat} {a : Code} (h1 : (loopsAt P f s).length = 1) (hp : PartOf P f (.loop a)) (hs : site a = s) : a = loopAt P f s := by
  obtain ⟨fn, body, e1, e2, hpart⟩ := hp
  have hb : bodyOf P f = body := by simp [bodyOf, e1, e2]
  have hm : a ∈ loopsAt P f s := by
    unfold loopsAt
    rw [hb]
    exact List.mem_filter.2 ⟨loops_part hpart a (by simp [loops]), by rw [hs]; exact Nat.beq_refl s⟩
  unfold loopAt
  match hl : loopsAt P f s, h1, hm with
  | [x], _, hm => simpa using hm

theorem partOf_loopBody {f : Nat} {a : Code} (h : PartOf P f (.loop a)) : PartOf P f a := partOf_loop h

/-- Of the loop at site s of function g, entered with this frame and this heap: these leaves. -/
def Orac.withLoop (O : Orac) (g s nm0 : Nat) (fr0 : List SV) (hp0 : Heap) (mk : PC → List Leaf) : Orac :=
  { O with loop := fun f t nm fr pc hp => if Nat.beq f g && Nat.beq t s then some (if Nat.beq nm nm0 && beqL fr fr0 && leafBeq.hB hp hp0 then some (mk pc) else none) else O.loop f t nm fr pc hp }

theorem withLoop_ok (oo : OOK P O I) {g s nm0 : Nat} {fr0 : List SV} {hp0 : Heap} {mk : PC → List Leaf} (h1 : (loopsAt P g s).length = 1)
    (h : ∀ (pc : PC) (sub : Nat), 64 ≤ sub → PartOf P g (loopAt P g s) → ∀ (B : Base) (ν : Env G) (ρ : Nat → Nat) (Q : Exit → Act → World → Prop), NP Q → ν.I = I →
      (∀ L ∈ mk pc, ∀ a w, SatL nm0 (nm0 + sub) ν ρ B L a w → LQ Q L.ex a w) → ∀ act w, pcDen ν pc → FR ν ρ fr0 act → HW B ν ρ hp0 w → (Code.loop (loopAt P g s)).wp P Q act w) : OOK P (O.withLoop g s nm0 fr0 hp0 mk) I where
  call := oo.call
  op := oo.op
  tail := oo.tail
  order := oo.order
  loop := by
    intro f nm a fr pc hp ls hpart ho
    unfold Orac.withLoop at ho
    simp only at ho
    split at ho
    · rename_i hb
      simp only [Bool.and_eq_true] at hb
      have hb1 := Nat.eq_of_beq_eq_true hb.1
      have hb2 := Nat.eq_of_beq_eq_true hb.2
      subst hb1
      split at ho
      · rename_i hc
        simp only [Bool.and_eq_true] at hc
        have c1 := Nat.eq_of_beq_eq_true hc.1.1
        have c2 := beqL_eq hc.1.2
        have c3 := hB_eq hc.2
        subst c1 c2 c3
        cases ho
        have ha := loop_is h1 hpart hb2
        subst ha
        intro sub hsub B ν ρ Q hQ hI hl act w hpc hf hw
        exact h pc sub hsub (partOf_loop hpart) B ν ρ Q hQ hI hl act w hpc hf hw
      · cases ho
    · exact oo.loop hpart ho

/-! ### one frame from another -/
/-- The slots that part, but for dead ones. -/
def diffX (ok : SV → Bool) : List SV → List SV → Option (List (SV × SV))
  | [], [] => some []
  | u :: us, v :: vs => match diffX ok us vs with
    | none => none
    | some l => if v.isDead then some l else if u.beq v && ok v then some l else if u.isDead then none else some ((u, v) :: l)
  | _, _ => none

theorem diffX_den {ok : SV → Bool} {ν ν' : Env G} {ρ ρ' : Nat → Nat} (hok : ∀ v, ok v = true → v.den ν ρ = v.den ν' ρ') : ∀ {us vs : List SV} {l : List (SV × SV)}, diffX ok us vs = some l → (∀ x ∈ l, x.1.den ν ρ = x.2.den ν' ρ') →
    us.length = vs.length ∧ ∀ (t : Nat) (v : SV), vs[t]? = some v → v.isDead = false → ∃ u, us[t]? = some u ∧ u.isDead = false ∧ u.den ν ρ = v.den ν' ρ'
  | [], [], l, _, _ => ⟨rfl, fun t v h => by simp at h⟩
  | [], _ :: _, l, h, _ => by simp [diffX] at h
  | _ :: _, [], l, h, _ => by simp [diffX] at h
  | u :: us, v :: vs, l, h, hl => by
    unfold diffX at h
    split at h
    · cases h
    · rename_i l0 h0
      have key : (∀ x ∈ l0, x.1.den ν ρ = x.2.den ν' ρ') → (v.isDead = false → u.isDead = false ∧ u.den ν ρ = v.den ν' ρ') → (u :: us).length = (v :: vs).length ∧ ∀ (t : Nat) (x : SV), (v :: vs)[t]? = some x → x.isDead = false → ∃ y, (u :: us)[t]? = some y ∧ y.isDead = false ∧ y.den ν ρ = x.den ν' ρ' := by
        intro hl0 hv
        obtain ⟨e1, e2⟩ := diffX_den hok h0 hl0
        refine ⟨by simp [e1], fun t x hx hd => ?_⟩
        cases t with
        | zero =>
          simp only [List.getElem?_cons_zero, Option.some.injEq] at hx
          subst hx
          exact ⟨u, rfl, hv hd⟩
        | succ t => simpa using e2 t x (by simpa using hx) hd
      split at h
      · rename_i hdead
        cases h
        exact key hl (fun hd => by rw [hdead] at hd; cases hd)
      · rename_i hdead
        split at h
        · rename_i hb
          simp only [Bool.and_eq_true] at hb
          cases h
          have hbe := SV.beq_eq hb.1
          subst hbe
          exact key hl (fun hd => ⟨hd, hok u hb.2⟩)
        · split at h
          · cases h
          · rename_i hud
            cases h
            exact key (fun x hx => hl x (by simp [hx])) (fun _ => ⟨by simpa using hud, hl (u, v) (by simp)⟩)

theorem FR.diff {ok : SV → Bool} {ν ν' : Env G} {ρ ρ' : Nat → Nat} (hok : ∀ v, ok v = true → v.den ν ρ = v.den ν' ρ') {us vs : List SV} {l : List (SV × SV)} (h : diffX ok us vs = some l) (hl : ∀ x ∈ l, x.1.den ν ρ = x.2.den ν' ρ') {act : Act} (hf : FR ν ρ us act) : FR ν' ρ' vs act := by
  obtain ⟨e1, e2⟩ := diffX_den hok h hl
  refine ⟨by rw [hf.size, e1], fun t v hv hd => ?_, hf.defers⟩
  obtain ⟨u, hu, hud, hden⟩ := e2 t v hv hd
  rw [hf.tmps t u hu hud, hden]
end
end Go.Sy
end

section
namespace Go.Sy
open Go Go.RowKit

/-! ### loops that change no memory -/
/-- A leaf against the head's frame (normal) or the exit's frame: how it ends; the slots that part; the path. -/
def sumOf (ok : SV → Bool) (frI frX : List SV) (hpI : Heap) (L : Leaf) : Option (SEx × List (SV × SV) × PC) :=
  match L.ex with
  | .bad => some (.bad, [], L.pc)
  | .normal => if leafBeq.hB L.hp hpI then (diffX ok L.fr frI).map fun d => (.normal, d, L.pc) else none
  | .exit i => if leafBeq.hB L.hp hpI then (diffX ok L.fr frX).map fun d => (.exit i, d, L.pc) else none
  | .ret => none
def sumsOf (ok : SV → Bool) (frI frX : List SV) (hpI : Heap) : List Leaf → Option (List (SEx × List (SV × SV) × PC))
  | [] => some []
  | L :: r => match sumOf ok frI frX hpI L, sumsOf ok frI frX hpI r with
    | some s, some l => some (s :: l)
    | _, _ => none

theorem sumsOf_mem {ok : SV → Bool} {frI frX : List SV} {hpI : Heap} : ∀ {ls : List Leaf} {l : List (SEx × List (SV × SV) × PC)}, sumsOf ok frI frX hpI ls = some l → ∀ L ∈ ls, ∃ s ∈ l, sumOf ok frI frX hpI L = some s
  | [], _, _, L, hL => by cases hL
  | M :: r, l, h, L, hL => by
    unfold sumsOf at h
    split at h
    · rename_i s l' hs hl
      cases h
      rcases List.mem_cons.1 hL with rfl | hL
      · exact ⟨s, by simp, hs⟩
      · obtain ⟨s', hs', he⟩ := sumsOf_mem hl L hL
        exact ⟨s', by simp [hs'], he⟩
    · cases h

/-- Names that a round's frame may keep: out of the loop's own, out of the round's. -/
def okNames (nm sub lo sz : Nat) (v : SV) : Bool := v.av nm (nm + sub) && v.av lo (lo + sz)

section
variable {P : Program} {G : Type} {O : Orac} {I : In G}

theorem loop_pure (pr : PR P) (oo : OOK P O I) {f : Nat} {a : Code} (hpart : PartOf P f a) {nm sub0 lo sz n it x : Nat} {fr0 frI frX : List SV} {pcI : PC} {hpI : Heap} {sums : List (SEx × List (SV × SV) × PC)} {start : List (SV × SV)}
    (hbody : (codeX P O lo sz f n it a frI pcI hpI).bind (sumsOf (okNames nm sub0 lo sz) frI frX hpI) = some sums) (h0 : diffX (fun v => v.av nm (nm + sub0)) fr0 frI = some start)
    (hv1 : hav nm (nm + sub0) hpI = true) (hv2 : hav lo (lo + sz) hpI = true)
    (J : Env G → Prop) (m : Env G → Nat) (pcX : PC → PC) {B : Base} {ν : Env G} {ρ : Nat → Nat} {Q : Exit → Act → World → Prop} (hQ : NP Q) (hI : ν.I = I)
    (hstart : ∃ ν1, Agree nm (nm + sub0) ν ν1 ρ ρ ∧ J ν1 ∧ pcDen ν1 pcI ∧ ∀ y ∈ start, y.1.den ν ρ = y.2.den ν1 ρ)
    (round : ∀ s ∈ sums, ∀ ν1 ν2 ρ2, Agree nm (nm + sub0) ν ν1 ρ ρ → J ν1 → pcDen ν1 pcI → Agree lo (lo + sz) ν1 ν2 ρ ρ2 → pcDen ν2 s.2.2 →
      match s.1 with
      | .normal => ∃ ν3, Agree nm (nm + sub0) ν ν3 ρ ρ ∧ J ν3 ∧ pcDen ν3 pcI ∧ m ν3 < m ν1 ∧ ∀ y ∈ s.2.1, y.1.den ν2 ρ2 = y.2.den ν3 ρ
      | .exit i => i = x ∧ ∃ ν3, Agree nm (nm + sub0) ν ν3 ρ ρ ∧ pcDen ν3 (pcX []) ∧ ∀ y ∈ s.2.1, y.1.den ν2 ρ2 = y.2.den ν3 ρ
      | _ => False)
    {pc : PC} (hpcX : ∀ ν3 : Env G, pcDen ν3 (pcX []) → pcDen ν3 pc → pcDen ν3 (pcX pc)) (hpv : pav nm (nm + sub0) pc = true)
    (hl : ∀ a w, SatL nm (nm + sub0) ν ρ B ⟨.exit x, frX, pcX pc, hpI⟩ a w → Q (.exit x) a w) (act : Act) (w : World) (hpc : pcDen ν pc) (hf : FR ν ρ fr0 act) (hw : HW B ν ρ hpI w) : (Code.loop a).wp P Q act w := by
  cases hb : codeX P O lo sz f n it a frI pcI hpI with
  | none => rw [hb] at hbody; cases hbody
  | some lsB =>
    rw [hb] at hbody
    simp only [Option.bind_some] at hbody
    obtain ⟨ν0, g1, g2, g3, g4⟩ := hstart
    have hnames : ∀ {ν1 ν2 ν3 : Env G} {ρ2 : Nat → Nat}, Agree nm (nm + sub0) ν ν1 ρ ρ → Agree lo (lo + sz) ν1 ν2 ρ ρ2 → Agree nm (nm + sub0) ν ν3 ρ ρ → ∀ v, okNames nm sub0 lo sz v = true → v.den ν2 ρ2 = v.den ν3 ρ := by
      intro ν1 ν2 ν3 ρ2 a1 a2 a3 v hv
      simp only [okNames, Bool.and_eq_true] at hv
      rw [SV.den_agree a2 v hv.2, SV.den_agree a1 v hv.1, SV.den_agree a3 v hv.1]
    refine wp_loop_ghost (fun k act w => ∃ ν1, Agree nm (nm + sub0) ν ν1 ρ ρ ∧ J ν1 ∧ pcDen ν1 pcI ∧ m ν1 = k ∧ FR ν1 ρ frI act ∧ HW B ν1 ρ hpI w) (m ν0) ⟨ν0, g1, g2, g3, rfl, FR.diff (fun v hv => (SV.den_agree g1 v hv).symm) h0 g4 hf, HW.agree g1 hv1 hw⟩ ?_
    rintro k act w ⟨ν1, h1, h2, h3, h4, h5, h6⟩
    refine x_code pr oo hb hpart B ν1 ρ (Exit.then _ Q) (h1.I.trans hI) (fun ch a w hq => hQ ch a w hq) ?_ act w ⟨ν1, ρ, Agree.refl _ _ _ _, h3, fun _ => ⟨h5, h6⟩⟩
    rintro L hL act' w' ⟨ν2, ρ2, k1, k2, k3⟩
    obtain ⟨s, hs, hsum⟩ := sumsOf_mem hbody L hL
    have hback : ∀ {ν3 : Env G}, Agree nm (nm + sub0) ν ν3 ρ ρ → HW B ν2 ρ2 hpI w' → HW B ν3 ρ hpI w' := fun h7 hw2 => HW.agree h7 hv1 (HW.agree h1.symm hv1 (HW.agree k1.symm hv2 hw2))
    unfold sumOf at hsum
    cases hex : L.ex with
    | normal =>
      rw [hex] at hsum k3
      simp only at hsum
      split at hsum
      · rename_i hheap
        simp only [Option.map_eq_some_iff] at hsum
        obtain ⟨d, hd, rfl⟩ := hsum
        obtain ⟨ν3, e1, e2, e3, e4, e5⟩ := round _ hs ν1 ν2 ρ2 h1 h2 h3 k1 k2
        obtain ⟨hf2, hw2⟩ := k3 trivial
        rw [hB_eq hheap] at hw2
        exact ⟨m ν3, by omega, ν3, e1, e2, e3, rfl, FR.diff (hnames h1 k1 e1) hd e5 hf2, hback e1 hw2⟩
      · cases hsum
    | exit i =>
      rw [hex] at hsum k3
      simp only at hsum
      split at hsum
      · rename_i hheap
        simp only [Option.map_eq_some_iff] at hsum
        obtain ⟨d, hd, rfl⟩ := hsum
        obtain ⟨rfl, ν3, e1, e2, e3⟩ := round _ hs ν1 ν2 ρ2 h1 h2 h3 k1 k2
        obtain ⟨hf2, hw2⟩ := k3 trivial
        rw [hB_eq hheap] at hw2
        refine hl act' w' ⟨ν3, ρ, e1, hpcX ν3 e2 (pcDen_agree e1 hpv hpc), fun _ => ⟨FR.diff (hnames h1 k1 e1) hd e3 hf2, hback e1 hw2⟩⟩
      · cases hsum
    | ret => rw [hex] at hsum; cases hsum
    | bad =>
      rw [hex] at hsum
      simp only [Option.some.injEq] at hsum
      subst hsum
      exact (round _ hs ν1 ν2 ρ2 h1 h2 h3 k1 k2).elim
end
end Go.Sy
end
