import Derived.Test.YtjcphbcjnjeccaaSy27
set_option linter.unusedVariables false
set_option linter.unusedSimpArgs false
namespace Go.Sy
open Go Go.RowKit

/-! ### contracts of calls that hand back a new row that may have room -/
def freshD1 (tyR : Nat) (c : CLeaf) : Option (Bool × PC × SI × SL × SI) :=
  if c.bad then some (true, c.pc, .lit 0, .nil, .lit 0) else match c.v with
    | .sl b o n cp => match hget b c.hp with
      | some (.row k l cp' ty) => if kBeq k .u64 && o.beq (.lit 0) && cp'.beq cp && Nat.beq ty tyR then some (false, c.pc, n, l, cp) else none
      | _ => none
    | _ => none
def freshDL (tyR : Nat) : List CLeaf → Option (List (Bool × PC × SI × SL × SI))
  | [] => some []
  | c :: r => match freshD1 tyR c, freshDL tyR r with
    | some x, some l => some (x :: l)
    | _, _ => none
def freshDOf (tyR : Nat) (o : Option (List CLeaf)) : Option (List (Bool × PC × SI × SL × SI)) := o.bind (freshDL tyR)
theorem freshDL_mem {tyR : Nat} : ∀ {cs : List CLeaf} {l : List (Bool × PC × SI × SL × SI)}, freshDL tyR cs = some l → ∀ c ∈ cs, ∃ x ∈ l, freshD1 tyR c = some x
  | [], _, _, c, hc => by cases hc
  | d :: r, l, h, c, hc => by
    unfold freshDL at h
    split at h
    · rename_i x l' hx hl
      cases h
      rcases List.mem_cons.1 hc with rfl | hc
      · exact ⟨x, by simp, hx⟩
      · obtain ⟨y, hy, he⟩ := freshDL_mem hl c hc
        exact ⟨y, by simp [hy], he⟩
    · cases h

theorem freshD_calls {P : Program} {O : Orac} (pr : PR P) (oo : OOK P O inM) {f tyR : Nat} {args : List SV} {pc : PC} {l : List (Bool × PC × SI × SL × SI)} (h : freshDOf tyR (runX P O f args pc []) = some l) (w : World) (ν : Env Gh) (ρ : Nat → Nat) (R : Ending → World → Prop) (hI : ν.I = inM) (hpc : pcDen ν pc)
    (hc : ∀ x ∈ l, ∀ ν' : Env Gh, (∀ n, out LO (LO + LO) n = true → ν'.i n = ν.i n) → ν'.I = inM → pcDen ν' x.2.1 → x.1 = false ∧ ∀ w' k rest, Below w.heap.size w w' → w.heap.size ≤ k → w'.heap[k]? = some (rowObj (x.2.2.2.1.den ν') rest tyR) → x.2.2.2.2.den ν' = ((x.2.2.2.1.den ν').length + rest.length : Nat) → x.2.2.2.2.den ν' ≤ 9223372036854775807 →
      R (.returned (.slice (some ⟨k, 0, none⟩) (x.2.2.1.den ν').toNat (x.2.2.2.2.den ν').toNat)) w') : Calls P f (denL ν ρ args).toArray w R := by
  cases hr : runX P O f args pc [] with
  | none => rw [hr] at h; cases h
  | some cs =>
    rw [hr] at h
    have h : freshDL tyR cs = some l := h
    refine runX_calls pr oo hr (baseOf w) ν ρ w R hI hpc (HW.empty _ _ _) fun c hm ν' ρ' w' hag hp' => ?_
    obtain ⟨x, hx, h1⟩ := freshDL_mem h c hm
    unfold freshD1 at h1
    split at h1
    · rename_i hb
      cases h1
      have := (hc _ hx ν' hag.i (hag.I.trans hI) hp').1
      cases this
    · rename_i hb
      have hb : c.bad = false := by simpa using hb
      split at h1
      · rename_i b o n cp hv
        split at h1
        · rename_i k l' cp' ty hg
          split at h1
          · rename_i hk
            simp only [Bool.and_eq_true] at hk
            have e1 := kBeq_eq hk.1.1.1
            have e2 := SI.beq_eq hk.1.1.2
            have e4 := SI.beq_eq hk.1.2
            have e5 := Nat.eq_of_beq_eq_true hk.2
            subst e1 e2 e4 e5
            cases h1
            obtain ⟨_, h2⟩ := hc _ hx ν' hag.i (hag.I.trans hI) hp'
            refine ⟨hb, fun hw' => ?_⟩
            obtain ⟨rest, r1, r2, r3⟩ := hw'.ints (hget_mem hg)
            obtain ⟨F, f1, f2, f3⟩ := hw'.foot
            have hown := f2 _ _ (ρ' b) (hget_mem hg) ((BlkDen.single (b := .row .u64 l' cp' ty) trivial (f1 _ _ (hget_mem hg)) (ρ' b)).2 rfl)
            rw [baseOf_own] at hown
            have := h2 w' (ρ' b) rest hw'.below hown r1 r2 r3
            rw [hv]
            simp only [SV.den, SI.den]
            exact this
          · cases h1
        · cases h1
      · cases h1

def FreshD (P : Program) (g tyR : Nat) (args : List Value) (xs : List Int) : Prop := ∀ w : World, Calls P g args.toArray w fun e w' => ∃ (k : Nat) (rest : List Value), e = .returned (.slice (some ⟨k, 0, none⟩) xs.length (xs.length + rest.length)) ∧ w.heap.size ≤ k ∧ w'.heap[k]? = some (rowObj xs rest tyR) ∧ xs.length + rest.length ≤ 9223372036854775807 ∧ Below w.heap.size w w'

def freshDK (tyR lo : Nat) (l : SL) (n : SI) (bs : PC) (pc : PC) (hp : Heap) : Option (List CLeaf) :=
  if hav lo (lo + 1) hp && pav lo (lo + 1) pc && l.av lo (lo + 1) && n.av lo (lo + 1) then some (⟨false, .sl lo (.lit 0) n (.var lo), pc, hadd lo (.row .u64 l (.var lo) tyR) hp⟩ :: (prune pc bs).map (bad1 pc)) else none
theorem freshDK_ok {P : Program} {tyR lo sz : Nat} {l : SL} {n : SI} {bs pc : PC} {hp : Heap} {cs : List CLeaf} (h : freshDK tyR lo l n bs pc hp = some cs) (hsz : 64 ≤ sz) {g : Nat} {vargs : List Value} {xs : List Int} {B : Base} {ν : Env Gh} {ρ : Nat → Nat} {w : World} {R : Ending → World → Prop} (hpc : pcDen ν pc) (hw : HW B ν ρ hp w)
    (hl : ∀ c ∈ cs, ∀ ν' ρ' w', Agree lo (lo + sz) ν ν' ρ ρ' → pcDen ν' c.pc → c.bad = false ∧ (HW B ν' ρ' c.hp w' → R (.returned (c.v.den ν' ρ')) w'))
    (hc : (∀ x ∈ bs, x.1.den ν ≠ x.2) → FreshD P g tyR vargs xs ∧ l.den ν = xs ∧ n.den ν = (xs.length : Int)) : Calls P g vargs.toArray w R := by
  unfold freshDK at h
  split at h
  · rename_i hk
    simp only [Bool.and_eq_true] at hk
    obtain ⟨⟨⟨k1, k2⟩, k3⟩, k4⟩ := hk
    cases h
    have hb := prune_den hpc (bads_ok hpc hl (bs := prune pc bs) (fun x hx => List.mem_cons_of_mem _ (List.mem_map.2 ⟨x, hx, rfl⟩)))
    obtain ⟨c1, c2, c3⟩ := hc hb
    refine (c1 w).mono fun e w' ⟨k, rest, he, hkk, hh, hmax, hbel⟩ => ?_
    subst he
    have hag := agree_updI (ν := ν) (ρ := ρ) lo k ((xs.length + rest.length : Nat) : Int)
    have hv : (ν.updI lo ((xs.length + rest.length : Nat) : Int)).i lo = ((xs.length + rest.length : Nat) : Int) := by simp [Env.updI]
    have hm := hl _ (List.mem_cons_self ..) (ν.updI lo ((xs.length + rest.length : Nat) : Int)) (upd ρ lo k) w' (hag.mono (Nat.ble_eq_true_of_le (Nat.le_refl _)) (Nat.ble_eq_true_of_le (by omega))) (pcDen_agree hag k2 hpc)
    have e1 : upd ρ lo k lo = k := by simp [upd]
    have e2 := SL.den_agree hag l k3
    have e3 := SI.den_agree hag n k4
    have hw2 := hw.put (n := lo) (k := k) (b := .row .u64 l (.var lo) tyR) (w' := w') hag k1 hbel.os hbel.tape hbel.output hbel.size (.inl (Nat.le_trans hw.size hkk))
      (by
        obtain ⟨F, f1, f2, f3⟩ := hw.foot
        exact ⟨F, f1, f2, f3, fun m c hm hF => by have := BlkDen.lt (f1 m c hm) hF; omega⟩)
      (fun j _ hj => hbel.block j hj)
      (by
        simp only [BlkDen, SI.den]
        rw [e1, hv]
        refine ⟨⟨rest, by rw [e2, c2]; exact hh, by rw [e2, c2], by omega⟩, fun _ => Iff.rfl⟩)
      (fun j hj => by
        have hlt : j < w.heap.size := by
          rcases Nat.lt_or_ge j w.heap.size with h | h
          · exact h
          · exact absurd (.inl (Nat.le_trans hw.size h)) hj
        exact hbel.block j hlt)
    have := hm.2 hw2
    simp only [SV.den, SI.den, e1, e3, c3, hv, Int.toNat_natCast] at this
    exact this
  · cases h
end Go.Sy
