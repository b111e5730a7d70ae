/- Plain laws of a deque's cells: what a push, a pop, a steal make of them. -/
import Derived.Test.YtlmenjenkpnacaaLwXA
import Derived.Test.YtlmenjenkpnacaaLwLaT
set_option linter.unusedVariables false
set_option linter.unusedSimpArgs false

section
namespace Go.Proofs.Ytlmenjenkpnacaa
open Go Go.Sy Go.RowKit

/-- Cells with n words from number t on: the top, the bottom, the slots. -/
structure DQ (l : List Int) (size t : Int) (n : Nat) : Prop where
  pow : Pow size
  len : (l.length : Int) = size + 2
  t0 : 0 ≤ t
  t1 : t < 18446744073709551616
  top : l.getD 0 0 = t
  bot : l.getD 1 0 = (t + n) % 18446744073709551616
  room : (n : Int) ≤ size
abbrev sl (l : List Int) (size t : Int) (n : Nat) : List Int := slotsG l 0 size t n 18446744073709551616 2 1
theorem mask_mod' (t c : Int) (h : Pow c) : bitsDen 0 .u64 t (c - 1) = t % 18446744073709551616 % c := by
  have e := mask_mod t c h
  have := h.le
  rwa [wrapS (c - 1) (by omega) (by omega), wrapU, Int.emod_eq_of_lt (by omega) (by omega)] at e
theorem bits_pow (c : Int) (h : Pow c) : bitsDen 0 .i64 c (c - 1) = 0 := by
  have := h.le
  have e := (bits_iff c (by omega) (by omega)).2 h
  rwa [wrapS (c - 1) (by omega) (by omega)] at e
theorem slot_lt (t c : Int) (h : Pow c) : 0 ≤ bitsDen 0 .u64 t (c - 1) ∧ bitsDen 0 .u64 t (c - 1) < c := by
  have := h.le
  rw [mask_mod' t c h]
  exact ⟨Int.emod_nonneg _ (by omega), Int.emod_lt_of_pos _ (by omega)⟩
theorem many_eq {t n : Int} (h0 : 0 ≤ t) (h1 : t < 18446744073709551616) (h2 : -1 ≤ n) (h3 : n ≤ 1000) : IntKind.i64.wrap (IntKind.u64.wrap ((t + n) % 18446744073709551616 - t)) = n := by
  rw [wrapU, IntKind.wrap_i64]; omega
section
variable {l : List Int} {size t : Int} {n : Nat}
theorem DQ.at_ (h : DQ l size t n) {j : Nat} (hj : j < n) : l.getD (2 + bitsDen 0 .u64 ((t + j) % 18446744073709551616) (size - 1)).toNat 0 = (sl l size t n).getD j 0 := by
  rw [slotsG_getD hj, mask_mod' _ _ h.pow, Int.emod_emod_of_dvd _ (Int.dvd_refl _)]
  congr 2
  omega
/-- the bottom laid back by one -/
theorem DQ.pop (h : DQ l size t (n + 1)) (v : Int) (hv : v = (t + n) % 18446744073709551616) : DQ (l.set 1 v) size t n ∧ sl (l.set 1 v) size t n = (sl l size t (n + 1)).take n := by
  have hp := h.pow.le
  have hl := h.len
  have hr := h.room
  refine ⟨⟨h.pow, by simpa using h.len, h.t0, h.t1, by rw [getD_set_ne _ _ _ _ (by omega)]; exact h.top, by rw [getD_set_eq _ _ _ (by omega), hv], by omega⟩, ?_⟩
  unfold sl
  rw [← slotsG_init, slotsG_front (by omega) (by omega) (by omega)]
/-- the last one won -/
theorem DQ.pop1 (h : DQ l size t 1) (u v : Int) (hu : u = (t + 1) % 18446744073709551616) (hv : v = (t + 1) % 18446744073709551616) : DQ ((l.set 0 u).set 1 v) size u 0 := by
  have hp := h.pow.le
  have hl := h.len
  have := h.t0
  have := h.t1
  refine ⟨h.pow, by simpa using h.len, by omega, by omega, ?_, ?_, by omega⟩
  · rw [getD_set_ne _ _ _ _ (by omega), getD_set_eq _ _ _ (by omega)]
  · rw [getD_set_eq _ _ _ (by simp; omega)]; omega
theorem DQ.steal (h : DQ l size t (n + 1)) (u : Int) (hu : u = (t + 1) % 18446744073709551616) : DQ (l.set 0 u) size u n ∧ sl (l.set 0 u) size u n = (sl l size t (n + 1)).drop 1 := by
  have hp := h.pow.le
  have hl := h.len
  have := h.t0
  have := h.t1
  have hr := h.room
  refine ⟨⟨h.pow, by simpa using h.len, by omega, by omega, getD_set_eq _ _ _ (by omega), ?_, by omega⟩, ?_⟩
  · rw [getD_set_ne _ _ _ _ (by omega), h.bot]; omega
  · unfold sl
    rw [slotsG_front (by omega) (by omega) (by omega), hu, slotsG_mod, slotsG_tail]
theorem DQ.push (h : DQ l size t n) (hn : (n : Int) < size) (u v : Int) (hu : u = (t + (n + 1 : Nat)) % 18446744073709551616) (i : Nat) (hi : i = (2 + bitsDen 0 .u64 (l.getD 1 0) (size - 1)).toNat) : DQ ((l.set 1 u).set i v) size t (n + 1) ∧ sl ((l.set 1 u).set i v) size t (n + 1) = sl l size t n ++ [v] := by
  have hp := h.pow.le
  have hl := h.len
  have hs := slot_lt (l.getD 1 0) size h.pow
  have hs' := mask_mod' (l.getD 1 0) size h.pow
  rw [h.bot, Int.emod_emod_of_dvd _ (Int.dvd_refl _)] at hs'
  rw [h.bot] at hi hs
  refine ⟨⟨h.pow, by simpa using h.len, h.t0, h.t1, ?_, ?_, by omega⟩, ?_⟩
  · rw [getD_set_ne _ _ _ _ (by omega), getD_set_ne _ _ _ _ (by omega)]; exact h.top
  · rw [getD_set_ne _ _ _ _ (by omega), getD_set_eq _ _ _ (by omega), hu]
  · unfold sl
    rw [slotsG_push (pow_dvd64 h.pow) (by omega) (by omega) hn ?_ (by simp; omega), slotsG_front (by omega) (by omega) (by omega)]
    rw [hi, hs']
    congr 1
    omega
end
end Go.Proofs.Ytlmenjenkpnacaa
end

section
namespace Go.Proofs.Ytlmenjenkpnacaa
open Go Go.Sy Go.RowKit

/-- The cell of a number's turn. -/
def tz (size x : Int) : Nat := (2 + 2 * (x % size)).toNat
/-- Cells with n tasks from number b on. -/
structure LQ (l : List Int) (size b : Int) (n : Nat) : Prop where
  pow : Pow size
  len : (l.length : Int) = 2 * size + 2
  b0 : 0 ≤ b
  b1 : b < 18446744073709551616
  beg : l.getD 1 0 = b
  fin : l.getD 0 0 = (b + n) % 18446744073709551616
  room : (n : Int) ≤ size
  full : ∀ j : Nat, j < n → l.getD (tz size (b + j)) 0 = (b + j + 1) % 18446744073709551616
  free : ∀ j : Nat, n ≤ j → (j : Int) < size → l.getD (tz size (b + j)) 0 = (b + j) % 18446744073709551616
abbrev sq (l : List Int) (size b : Int) (n : Nat) : List Int := slotsG l 0 size b n 18446744073709551616 3 2
theorem tz_lt {size x : Int} (h : 0 < size) : 2 ≤ tz size x ∧ (tz size x : Int) ≤ 2 * size ∧ (tz size x : Int) = 2 + 2 * (x % size) := by
  have h1 := Int.emod_nonneg x (show size ≠ 0 by omega)
  have h2 := Int.emod_lt_of_pos x h
  unfold tz
  omega
theorem tz_ne {size b : Int} {j k : Nat} (h : 0 < size) (hj : (j : Int) < size) (hk : (k : Int) < size) (hjk : j ≠ k) : tz size (b + j) ≠ tz size (b + k) := by
  have a := (tz_lt (x := b + j) h).2.2
  have c := (tz_lt (x := b + k) h).2.2
  intro e
  rcases Nat.lt_or_gt_of_ne hjk with hlt | hlt
  · exact emod_ne (b := size) (t := b) (j := (j : Int)) (k := (k : Int)) (by omega) (by omega) (by omega) (by omega)
  · exact emod_ne (b := size) (t := b) (j := (k : Int)) (k := (j : Int)) (by omega) (by omega) (by omega) (by omega)
theorem tz_bits {size x : Int} (h : Pow size) : 2 + 2 * bitsDen 0 .u64 x (size - 1) = (tz size x : Int) := by
  have := h.le
  rw [mask_mod' _ _ h, emod_two (pow_dvd64 h)]
  exact ((tz_lt (x := x) (by omega)).2.2).symm
theorem tz_mod {size x : Int} (h : Pow size) : tz size (x % 18446744073709551616) = tz size x := by
  unfold tz; rw [emod_two (pow_dvd64 h)]
section
variable {l : List Int} {size b : Int} {n : Nat}
theorem LQ.many (h : LQ l size b n) : IntKind.i64.wrap (IntKind.u64.wrap (l.getD 0 0 - l.getD 1 0)) = n := by
  have := h.pow.le
  have := h.room
  rw [h.fin, h.beg]
  exact many_eq h.b0 h.b1 (by omega) (by omega)
/-- what All tells of a lane's cells -/
theorem LQ.all (h : LQ l size b n) : slotsG l 0 size (l.getD 1 0) (IntKind.i64.wrap (IntKind.u64.wrap (l.getD 0 0 - l.getD 1 0))) 18446744073709551616 3 2 = sq l size b n := by
  rw [h.many, h.beg]
theorem LQ.put (h : LQ l size b n) (hn : (n : Int) < size) (u v : Int) (hu : u = (b + (n + 1 : Nat)) % 18446744073709551616) (i k : Nat) (hi : i = tz size (b + n)) (hk : k = i + 1) :
    LQ (((l.set i u).set k v).set 0 u) size b (n + 1) ∧ sq (((l.set i u).set k v).set 0 u) size b (n + 1) = sq l size b n ++ [v] := by
  have hp := h.pow.le
  have hl := h.len
  have ht := tz_lt (size := size) (x := b + n) (by omega)
  have hne : ∀ j : Nat, (j : Int) < size → j ≠ n → (((l.set i u).set k v).set 0 u).getD (tz size (b + j)) 0 = l.getD (tz size (b + j)) 0 := fun j hj hjn => by
    have h1 := tz_ne (b := b) (by omega) hj hn hjn
    have h2 := tz_lt (size := size) (x := b + j) (by omega)
    rw [getD_set_ne _ _ _ _ (by omega), getD_set_ne _ _ _ _ (by omega), getD_set_ne _ _ _ _ (by omega)]
  refine ⟨⟨h.pow, by simpa using h.len, h.b0, h.b1, ?_, ?_, by omega, fun j hj => ?_, fun j hj hjs => ?_⟩, ?_⟩
  · rw [getD_set_ne _ _ _ _ (by omega), getD_set_ne _ _ _ _ (by omega), getD_set_ne _ _ _ _ (by omega)]; exact h.beg
  · rw [getD_set_eq _ _ _ (by simp; omega), hu]
  · by_cases hjn : j = n
    · subst hjn
      rw [getD_set_ne _ _ _ _ (by omega), getD_set_ne _ _ _ _ (by omega), ← hi, getD_set_eq _ _ _ (by omega), hu]
      congr 1
      omega
    · rw [hne j (by omega) hjn]; exact h.full j (by omega)
  · rw [hne j hjs (by omega)]; exact h.free j (by omega) hjs
  · unfold sq
    have hm : (b + (n : Int)) % 18446744073709551616 % size = (b + n) % size := emod_two (pow_dvd64 h.pow)
    rw [slotsG_front (by omega) (by omega) (by omega), slotsG_push (pow_dvd64 h.pow) (by omega) (by omega) hn (by rw [hm]; omega) (by simp; omega), slotsG_other]
    intro j _
    have h1 : 0 ≤ (b + (j : Int)) % 18446744073709551616 % size := Int.emod_nonneg _ (by omega)
    omega
theorem LQ.take (h : LQ l size b (n + 1)) (u w : Int) (hu : u = (b + 1) % 18446744073709551616) (hw : w = (b + size) % 18446744073709551616) (i : Nat) (hi : i = tz size b) :
    LQ ((l.set i w).set 1 u) size u n ∧ sq ((l.set i w).set 1 u) size u n = (sq l size b (n + 1)).drop 1 := by
  have hp := h.pow.le
  have hl := h.len
  have hr := h.room
  have := h.b0
  have := h.b1
  have hs : 0 < size := by omega
  have ht := tz_lt (size := size) (x := b) hs
  have e0 : tz size b = tz size (b + (0 : Nat)) := by congr 1; omega
  have hne : ∀ j : Nat, j + 1 < size → ((l.set i w).set 1 u).getD (tz size (b + (j + 1 : Nat))) 0 = l.getD (tz size (b + (j + 1 : Nat))) 0 := fun j hj => by
    have h1 := tz_ne (b := b) (j := j + 1) (k := 0) hs (by omega) (by omega) (by omega)
    have h2 := tz_lt (size := size) (x := b + (j + 1 : Nat)) hs
    rw [getD_set_ne _ _ _ _ (by omega), getD_set_ne _ _ _ _ (by omega)]
  have et : ∀ j : Nat, tz size (u + j) = tz size (b + (j + 1 : Nat)) := fun j => by
    rw [← tz_mod h.pow (x := u + j), ← tz_mod h.pow (x := b + (j + 1 : Nat))]
    congr 1
    omega
  refine ⟨⟨h.pow, by simpa using h.len, by omega, by omega, getD_set_eq _ _ _ (by simp; omega), ?_, by omega, fun j hj => ?_, fun j hj hjs => ?_⟩, ?_⟩
  · rw [getD_set_ne _ _ _ _ (by omega), getD_set_ne _ _ _ _ (by omega), h.fin]; omega
  · rw [et, hne j (by omega), h.full (j + 1) (by omega)]; omega
  · by_cases hj2 : (j : Int) + 1 < size
    · rw [et, hne j hj2, h.free (j + 1) (by omega) (by omega)]; omega
    · have e2 : tz size (u + j) = tz size b := by
        rw [et]
        unfold tz
        rw [show b + ((j + 1 : Nat) : Int) = b + size by omega, Int.add_emod_right]
      rw [e2, getD_set_ne _ _ _ _ (by omega), ← hi, getD_set_eq _ _ _ (by omega), hw]
      omega
  · unfold sq
    rw [slotsG_front (by omega) (by omega) (by omega), slotsG_other, hu, slotsG_mod, slotsG_tail]
    intro j _
    have h1 : 0 ≤ (u + (j : Int)) % 18446744073709551616 % size := Int.emod_nonneg _ (by omega)
    omega
theorem LQ.first (h : LQ l size b (n + 1)) : l.getD (tz size b + 1) 0 = (sq l size b (n + 1)).getD 0 0 := by
  have hp := h.pow.le
  have ht := tz_lt (size := size) (x := b) (by omega)
  unfold sq
  rw [slotsG_getD (by omega)]
  congr 1
  have hm : (b + ((0 : Nat) : Int)) % 18446744073709551616 % size = b % size := by rw [emod_two (pow_dvd64 h.pow)]; congr 1; omega
  rw [hm]; omega
end
end Go.Proofs.Ytlmenjenkpnacaa
end

section
namespace Go.Proofs.Ytlmenjenkpnacaa
open Go Go.Sy Go.RowKit

structure FL (ν : Env Gh) : Prop where
  pow : Pow (ν.i 11)
  le : ν.i 11 ≤ 32
  len : (ν.l 0).length ≤ 100
  f0 : 0 ≤ ν.i 12
  f1 : ν.i 12 < 18446744073709551616
  rng : ∀ x ∈ ν.l 0, 0 ≤ x ∧ x ≤ 255
theorem fL {ν : Env Gh} (hI : ν.I = inM) (h : pcDen ν pcELa) : FL ν := by
  have h1 := (powB_den ν (.var 11)).1 (pcAt h 7 rfl)
  have h2 := lt_den (pcAt h 6 rfl)
  have h3 := lt_den (pcAt h 8 rfl)
  have h4 := lt_den (pcAt h 9 rfl)
  have h5 := lt_den (pcAt h 10 rfl)
  have h6 := pcAt h 11 rfl
  simp only [SI.den, SL.den, Bool.false_eq_true, iff_false] at h1 h2 h3 h4 h5
  exact ⟨h1, by omega, by omega, by omega, by omega, (range_den hI (.var 0) 0 255).1 h6⟩
theorem FL.elem {ν : Env Gh} (F : FL ν) (i : Nat) : 0 ≤ (ν.l 0).getD i 0 ∧ (ν.l 0).getD i 0 ≤ 255 := by
  rw [List.getD_eq_getElem?_getD]
  cases h : (ν.l 0)[i]? with
  | none => simp
  | some x => exact F.rng x (List.mem_of_getElem? h)
/-- At a round: the cells are a lane's, with the list's tasks. -/
structure JL (ν : Env Gh) (x : Vals Gh) (b : Int) (n : Nat) : Prop where
  lq : LQ (x.l 8) (ν.i 11) b n
  n2 : x.i 2 = n
  same : sq (x.l 8) (ν.i 11) b n = ((x.l 9).drop (x.i 1).toNat).take n
  i0 : 0 ≤ x.i 0
  i1 : x.i 0 ≤ (ν.l 0).length
  o0 : 0 ≤ x.i 1
  o1 : x.i 1 ≤ x.i 0
  in0 : x.i 1 + n ≤ (x.l 9).length
  in1 : (x.l 9).length ≤ x.i 0 + 33
  room : x.i 1 + x.i 3 ≤ x.i 4
  cap : (n : Int) ≤ x.i 3
theorem hL1pc : (hdAt headsL 1).pc = pInLa ++ (sizeP ++ (deedP (.var nLa) ++ (rowP nInLa ++ pcELa))) := by kernel_rfl
theorem hL0pc : (hdAt headsL 0).pc = sizeP ++ (deedP (.lit 0) ++ (rowP (.lit 0) ++ pcELa)) := by kernel_rfl
theorem avELa : pav nLa (nLa + 64) pcELa = true := by kernel_rfl
attribute [local irreducible] nmAt
theorem rowL_pc {ν : Env Gh} {x : Vals Gh} {b : Int} {n : Nat} (F : FL ν) (h : LQ (x.l 8) (ν.i 11) b n) {m : SI} (hm : m.den (ν.at nLa x) = n) : pcDen (ν.at nLa x) (rowP m) := by
  have rf : RF nLa ν x (ν.at nLa x) := RF.self rfl
  have hb := h.b0
  have hb1 := h.b1
  have hr := h.room
  have hw := F.le
  have e1 : endLa.den (ν.at nLa x) = (b + n) % 18446744073709551616 := by
    simp only [endLa, lLa, SI.den, SL.den, rf.l 8 (by decide), Int.toNat_zero]; exact h.fin
  have e2 : begLa.den (ν.at nLa x) = b := by
    simp only [begLa, lLa, SI.den, SL.den, rf.l 8 (by decide), one]; exact h.beg
  simp only [rowP, manyOf, pcDen_cons_iff, pcDen_nil_iff, and_true, SB.den, beq_iff_eq]
  simp only [SI.den, SI.mkSub_den, SI.mkAdd_den, e1, e2, hm]
  refine ⟨?_, ?_, ?_⟩
  · simp only [wu, IntKind.wrap_i64]; omega
  · simp only [wu, IntKind.wrap_i64]; omega
  · simp only [wu, IntKind.wrap_i64]; omega
theorem sizeL_pc {ν : Env Gh} {x : Vals Gh} {b : Int} {n : Nat} (h : LQ (x.l 8) (ν.i 11) b n) : pcDen (ν.at nLa x) sizeP := by
  have rf : RF nLa ν x (ν.at nLa x) := RF.self rfl
  have hl := h.len
  simp only [sizeP, szLa, lLa, pcDen_cons_iff, pcDen_nil_iff, and_true, SB.den, beq_iff_eq]
  simp only [SI.den, SL.den, rf.l 8 (by decide), rf.io 11 (by decide)]
  exact ⟨bits_pow _ h.pow, hl⟩
theorem deedL_pc {ν : Env Gh} {x : Vals Gh} (F : FL ν) (i : SI) : pcDen (ν.at nLa x) (deedP i) := by
  have rf : RF nLa ν x (ν.at nLa x) := RF.self rfl
  have := F.elem (i.den (ν.at nLa x)).toNat
  refine pcDen_cons (lt_of ?_) (pcDen_one (lt_of ?_))
  · simp only [dLa, SI.den, SL.den, rf.lo 0 (by decide), Bool.false_eq_true, iff_false]; omega
  · simp only [dLa, SI.den, SL.den, rf.lo 0 (by decide), Bool.false_eq_true, iff_false]; omega
theorem oldL_pc {ν : Env Gh} {x : Vals Gh} (hp : pcDen ν pcELa) : pcDen (ν.at nLa x) pcELa := pcDen_agree (at_agree (ρ := fun _ => 0) (ρ' := fun _ => 0) (fun _ _ => rfl)) avELa hp
theorem hL0ok {ν : Env Gh} {x : Vals Gh} {b : Int} (F : FL ν) (hp : pcDen ν pcELa) (h : LQ (x.l 8) (ν.i 11) b 0) : pcDen (ν.at nLa x) (hdAt headsL 0).pc := by
  rw [hL0pc]
  exact pcDen_append (sizeL_pc h) (pcDen_append (deedL_pc F _) (pcDen_append (rowL_pc F h rfl) (oldL_pc hp)))
theorem hL1ok {ν : Env Gh} {x : Vals Gh} {b : Int} {n : Nat} (F : FL ν) (hp : pcDen ν pcELa) (J : JL ν x b n) : pcDen (ν.at nLa x) (hdAt headsL 1).pc := by
  rw [hL1pc]
  have rf : RF nLa ν x (ν.at nLa x) := RF.self rfl
  have r0 : (ν.at nLa x).i nLa = x.i 0 := rf.i 0 (by decide)
  have r2 : nInLa.den (ν.at nLa x) = x.i 2 := by simp only [nInLa, SI.den, rf.i 2 (by decide)]
  obtain ⟨lq, n2, same, i0, i1, o0, o1, in0, in1, room, cap⟩ := J
  have hr := lq.room
  have F1 := F.le
  have F2 := F.len
  refine pcDen_append ?_ (pcDen_append (sizeL_pc lq) (pcDen_append (deedL_pc F _) (pcDen_append (rowL_pc F lq (by rw [r2]; exact n2)) (oldL_pc hp))))
  simp only [pInLa, pcDen_cons_iff, pcDen_nil_iff, and_true]
  refine ⟨?_, ?_, ?_, ?_, ?_, ?_, ?_, ?_, ?_, ?_, ?_⟩ <;> refine lt_of ?_ <;> simp only [szLa, SI.den, SL.den, r0, r2, rf.i 1 (by decide), rf.i 3 (by decide), rf.i 4 (by decide), rf.l 9 (by decide), rf.io 11 (by decide), Bool.false_eq_true, iff_false] <;> omega
def mL1 (ν : Env Gh) (x : Vals Gh) : Nat := ((ν.l 0).length - x.i 0).toNat
/-- what a round owes -/
def GL (ν : Env Gh) (ν2 : Env Gh) (m0 : Nat) (t : SumT) : Prop := match t.ex with
  | .normal => t.k = 1 ∧ (∃ b n, JL ν (t.mt.vals (ghL []) ν2) b n) ∧ mL1 ν (t.mt.vals (ghL []) ν2) < m0 ∧ t.mt.Owed ν2 (ν.at nLa (t.mt.vals (ghL []) ν2))
  | .bad => False
  | .exit _ => t.k = 0 ∧ t.mt.Owed ν2 (ν.at nLa (t.mt.vals (ghL []) ν2))
  | .ret => False
end Go.Proofs.Ytlmenjenkpnacaa
end

section
namespace Go.Proofs.Ytlmenjenkpnacaa
open Go Go.Sy Go.RowKit

attribute [local irreducible] nmAt
theorem eqW_den {ν : Env Gh} (hI : ν.I = inM) (A C : SL) : (SB.gb 0 (.app 2 (.app 1 (.var 0) (.var 0) (.lit 0) (.lit 0) (.lit 0) (.lit 0) A) (.app 1 (.var 0) (.var 0) (.lit 0) (.lit 0) (.lit 0) (.lit 0) C) (.lit 0) (.lit 0) (.lit 0) (.lit 0) .nil) (.lit 0) (.lit 0)).den ν = (A.den ν == C.den ν) := by
  simp [SB.den, SG.den, hI, inM, ghL]
theorem gl41_den {ν : Env Gh} (hI : ν.I = inM) (a b c d : SI) (l : SL) : (SL.gl 0 (.app 41 (.var 0) (.var 0) a b c d l) (.lit 0) (.lit 0)).den ν = slotsG (l.den ν) (a.den ν) (b.den ν) (c.den ν) (d.den ν) 18446744073709551616 3 2 := by
  simp [SL.den, SG.den, hI, inM, xga, ghL]
theorem getD_takeDrop (l : List Int) (o n j : Nat) (h : j < n) : ((l.drop o).take n).getD j 0 = l.getD (o + j) 0 := by
  simp only [List.getD_eq_getElem?_getD, List.getElem?_take, List.getElem?_drop]
  rw [if_pos h]
theorem owedL {ν ν2 : Env Gh} {x y : Vals Gh} {t : Int} {n : Nat} {l : SL} (J : LQ (x.l 8) (ν.i 11) t n) (rf : RF nLa ν x ν2) (hl : (l.den ν2).length = (x.l 8).length) {b : List (Nat × Nat)} {i : List (Nat × SI)} {ls : List (Nat × SL)} {g : List (Nat × SG)} : (⟨b, i, ls, g, [(.len l, .nat (.add (.mul (.lit 2) (.var 11)) (.lit 2)))], [], [], []⟩ : Mt).Owed ν2 (ν.at nLa y) := by
  have rf3 : RF nLa ν y (ν.at nLa y) := RF.self rfl
  have h1 := J.len
  have h2 := J.pow.le
  constructor
  · intro z hz
    simp only [List.mem_cons, List.not_mem_nil, or_false] at hz
    subst hz
    simp only [SI.den, rf3.io 11 (by decide), hl]
    omega
  · simp
  · simp
  · simp
section
variable {ν : Env Gh} {x y : Vals Gh} {b : Int} {n : Nat}
theorem bitsE {l : List Int} {size x : Int} (h : Pow size) : (2 + 2 * bitsDen 0 .u64 (x % 18446744073709551616) (size - 1)).toNat = tz size x ∧ (2 + 2 * bitsDen 0 .u64 (x % 18446744073709551616) (size - 1) + 1).toNat = tz size x + 1 := by
  have := tz_bits (x := x % 18446744073709551616) h
  rw [tz_mod h] at this
  omega
theorem JL.idle (J : JL ν x b n) (hi : x.i 0 < (ν.l 0).length) (y0 : y.i 0 = x.i 0 + 1) (y1 : y.i 1 = x.i 1) (y2 : y.i 2 = x.i 2) (y3 : y.i 3 = x.i 3) (y4 : y.i 4 = x.i 4) (y8 : y.l 8 = x.l 8) (y9 : y.l 9 = x.l 9) : JL ν y b n := by
  obtain ⟨lq, n2, same, i0, i1, o0, o1, in0, in1, room, cap⟩ := J
  exact ⟨by rw [y8]; exact lq, by rw [y2]; exact n2, by rw [y8, y9, y1]; exact same, by omega, by omega, by omega, by omega, by rw [y1, y9]; exact in0, by rw [y9]; omega, by omega, by omega⟩
/-- the cells behind a put -/
def putC (l : List Int) (size v : Int) : List Int := ((l.set (2 + 2 * bitsDen 0 .u64 (l.getD 0 0) (size - 1)).toNat (IntKind.u64.wrap (l.getD 0 0 + 1))).set (2 + 2 * bitsDen 0 .u64 (l.getD 0 0) (size - 1) + 1).toNat v).set 0 (IntKind.u64.wrap (l.getD 0 0 + 1))
def takeC (l : List Int) (size : Int) : List Int := (l.set (2 + 2 * bitsDen 0 .u64 (l.getD 1 0) (size - 1)).toNat (IntKind.u64.wrap (l.getD 1 0 + size))).set 1 (IntKind.u64.wrap (l.getD 1 0 + 1))
theorem LQ.putC {l : List Int} {size : Int} (h : LQ l size b n) (hn : (n : Int) < size) (v : Int) : LQ (putC l size v) size b (n + 1) ∧ sq (putC l size v) size b (n + 1) = sq l size b n ++ [v] := by
  obtain ⟨e1, e2⟩ := bitsE (l := l) (x := b + n) h.pow
  refine LQ.put h hn _ v ?_ _ _ ?_ ?_
  · rw [h.fin, wu]; omega
  · rw [h.fin, e1]
  · rw [h.fin, e1, e2]
theorem LQ.takeC {l : List Int} {size : Int} (h : LQ l size b (n + 1)) : LQ (takeC l size) size (IntKind.u64.wrap (l.getD 1 0 + 1)) n ∧ sq (takeC l size) size (IntKind.u64.wrap (l.getD 1 0 + 1)) n = (sq l size b (n + 1)).drop 1 := by
  have hb := h.b0
  have hb1 := h.b1
  have e1 := (bitsE (l := l) (x := b) h.pow).1
  rw [Int.emod_eq_of_lt hb hb1] at e1
  refine LQ.take h _ _ ?_ ?_ _ ?_
  · rw [h.beg, wu]
  · rw [h.beg, wu]
  · rw [h.beg, e1]
theorem JL.first (J : JL ν x b (n + 1)) : (x.l 8).getD (2 + 2 * bitsDen 0 .u64 ((x.l 8).getD 1 0) (ν.i 11 - 1) + 1).toNat 0 = (x.l 9).getD (x.i 1).toNat 0 := by
  have hb := J.lq.b0
  have hb1 := J.lq.b1
  have e1 := (bitsE (l := x.l 8) (x := b) J.lq.pow).2
  rw [Int.emod_eq_of_lt hb hb1] at e1
  rw [J.lq.beg, e1, J.lq.first, J.same, getD_takeDrop _ _ _ _ (by omega)]
  rfl
theorem JL.taken (J : JL ν x b (n + 1)) (hi : x.i 0 < (ν.l 0).length) (y0 : y.i 0 = x.i 0 + 1) (y1 : y.i 1 = x.i 1 + 1) (y2 : y.i 2 = x.i 2 - 1) (y3 : y.i 3 = x.i 3 - 1) (y4 : y.i 4 = x.i 4) (y8 : y.l 8 = takeC (x.l 8) (ν.i 11)) (y9 : y.l 9 = x.l 9) : JL ν y (IntKind.u64.wrap ((x.l 8).getD 1 0 + 1)) n := by
  obtain ⟨lq, n2, same, i0, i1, o0, o1, in0, in1, room, cap⟩ := J
  obtain ⟨d1, d2⟩ := lq.takeC
  refine ⟨by rw [y8]; exact d1, by omega, ?_, by omega, by omega, by omega, by omega, by rw [y1, y9]; omega, by rw [y9]; omega, by omega, by omega⟩
  rw [y8, d2, y9, y1, same, List.drop_take, List.drop_drop]
  congr 2
  omega
theorem JL.takenEnd (J : JL ν x b (0 + 1)) (hi : x.i 0 < (ν.l 0).length) (y0 : y.i 0 = x.i 0 + 1) (y1 : y.i 1 = x.i 1) (y2 : y.i 2 = x.i 2 - 1) (y3 : y.i 3 = x.i 3 - 1) (y4 : y.i 4 = x.i 4) (y8 : y.l 8 = takeC (x.l 8) (ν.i 11)) (y9 : y.l 9 = x.l 9) : JL ν y (IntKind.u64.wrap ((x.l 8).getD 1 0 + 1)) 0 := by
  obtain ⟨lq, n2, same, i0, i1, o0, o1, in0, in1, room, cap⟩ := J
  obtain ⟨d1, d2⟩ := lq.takeC
  refine ⟨by rw [y8]; exact d1, by omega, ?_, by omega, by omega, by omega, by omega, by rw [y1, y9]; omega, by rw [y9]; omega, by omega, by omega⟩
  simp [slotsG]
theorem JL.pushedRoom (J : JL ν x b n) (v : Int) (hr : x.i 2 < ν.i 11) (hc : x.i 2 + 1 ≤ x.i 3) (hi : x.i 0 < (ν.l 0).length) (F : FL ν) (y0 : y.i 0 = x.i 0 + 1) (y1 : y.i 1 = x.i 1) (y2 : y.i 2 = x.i 2 + 1) (y3 : y.i 3 = x.i 3) (y4 : y.i 4 = x.i 4)
    (y8 : y.l 8 = putC (x.l 8) (ν.i 11) v) (y9 : y.l 9 = (x.l 9).take (x.i 1 + x.i 2).toNat ++ [v]) : JL ν y b (n + 1) := by
  obtain ⟨lq, n2, same, i0, i1, o0, o1, in0, in1, room, cap⟩ := J
  obtain ⟨d1, d2⟩ := lq.putC (by omega) v
  have := F.le
  have hl : ((x.l 9).take (x.i 1 + x.i 2).toNat).length = (x.i 1).toNat + n := by rw [List.length_take]; omega
  refine ⟨by rw [y8]; exact d1, by omega, ?_, by omega, by omega, by omega, by omega, by rw [y1, y9, List.length_append, hl]; simp; omega, by rw [y9, List.length_append, hl]; simp; omega, by omega, by omega⟩
  rw [y8, d2, same, y9, y1, List.drop_append_of_le_length (by omega), List.take_append, List.length_drop, hl]
  have e1 : List.take (n + 1) (List.drop (x.i 1).toNat (List.take (x.i 1 + x.i 2).toNat (x.l 9))) = List.take n (List.drop (x.i 1).toNat (x.l 9)) := by
    rw [List.drop_take, List.take_take]
    congr 1
    omega
  rw [e1]
  have e2 : n + 1 - ((x.i 1).toNat + n - (x.i 1).toNat) = 1 := by omega
  rw [e2]
  rfl
theorem JL.pushedGrow (J : JL ν x b n) (v : Int) (hr : x.i 2 < ν.i 11) (hi : x.i 0 < (ν.l 0).length) (F : FL ν) (y0 : y.i 0 = x.i 0 + 1) (y1 : y.i 1 = 0) (y2 : y.i 2 = x.i 2 + 1) (y3 : y.i 3 = y.i 4)
    (y8 : y.l 8 = putC (x.l 8) (ν.i 11) v) (y9 : y.l 9 = ((x.l 9).drop (x.i 1).toNat).take (x.i 2).toNat ++ [v]) (hy : ((y.l 9).length : Int) ≤ y.i 4) : JL ν y b (n + 1) := by
  obtain ⟨lq, n2, same, i0, i1, o0, o1, in0, in1, room, cap⟩ := J
  obtain ⟨d1, d2⟩ := lq.putC (by omega) v
  have := F.le
  have hn : (x.i 2).toNat = n := by omega
  have hl : (((x.l 9).drop (x.i 1).toNat).take n).length = n := by rw [List.length_take, List.length_drop]; omega
  rw [hn] at y9
  have hly : (y.l 9).length = n + 1 := by rw [y9, List.length_append, hl]; rfl
  refine ⟨by rw [y8]; exact d1, by omega, ?_, by omega, by omega, by omega, by omega, by rw [y1, hly]; omega, by rw [hly]; omega, by omega, by omega⟩
  rw [y8, d2, same, ← y9, y1, Int.toNat_zero, List.drop_zero, List.take_of_length_le (by omega)]
/-- the list with one more behind: what is read of it -/
theorem JL.roomList (J : JL ν x b n) (v : Int) : ((x.l 9).drop (x.i 1).toNat).take n ++ [v] = (((x.l 9).take (x.i 1 + x.i 2).toNat ++ [v]).drop (x.i 1).toNat).take (x.i 2 + 1).toNat := by
  obtain ⟨lq, n2, same, i0, i1, o0, o1, in0, in1, room, cap⟩ := J
  have hl : ((x.l 9).take (x.i 1 + x.i 2).toNat).length = (x.i 1).toNat + n := by rw [List.length_take]; omega
  rw [List.drop_append_of_le_length (by omega), List.take_append, List.length_drop, hl]
  have e1 : List.take (x.i 2 + 1).toNat (List.drop (x.i 1).toNat (List.take (x.i 1 + x.i 2).toNat (x.l 9))) = List.take n (List.drop (x.i 1).toNat (x.l 9)) := by
    rw [List.drop_take, List.take_take]
    congr 1
    omega
  rw [e1, show (x.i 2 + 1).toNat - ((x.i 1).toNat + n - (x.i 1).toNat) = 1 by omega]
  rfl
theorem JL.growList (J : JL ν x b n) (v : Int) : ((x.l 9).drop (x.i 1).toNat).take n ++ [v] = (((x.l 9).drop (x.i 1).toNat).take (x.i 2).toNat ++ [v]).take (x.i 2 + 1).toNat := by
  obtain ⟨lq, n2, same, i0, i1, o0, o1, in0, in1, room, cap⟩ := J
  rw [show (x.i 2).toNat = n by omega]
  exact (List.take_of_length_le (by rw [List.length_append, List.length_take, List.length_drop]; simp only [List.length_cons, List.length_nil]; omega)).symm
theorem JL.begin_ (h : LQ (x.l 8) (ν.i 11) b 0) (hi : 0 < (ν.l 0).length) (y0 : y.i 0 = 1) (y1 : y.i 1 = 0) (y2 : y.i 2 = 0) (y3 : y.i 3 = 0) (y4 : y.i 4 = 0) (y8 : y.l 8 = x.l 8) (y9 : y.l 9 = []) : JL ν y b 0 :=
  ⟨by rw [y8]; exact h, by rw [y2]; rfl, by rw [y9]; simp [slotsG], by omega, by omega, by omega, by omega, by rw [y1, y9]; simp, by rw [y9]; simp; omega, by omega, by omega⟩
theorem JL.begin1 (h : LQ (x.l 8) (ν.i 11) b 0) (F : FL ν) (v : Int) (hi : 0 < (ν.l 0).length) (y0 : y.i 0 = 1) (y1 : y.i 1 = 0) (y2 : y.i 2 = 1) (y3 : y.i 3 = y.i 4) (y8 : y.l 8 = putC (x.l 8) (ν.i 11) v) (y9 : y.l 9 = [v]) (hy : 1 ≤ y.i 4) : JL ν y b 1 := by
  have hp := F.pow.le
  obtain ⟨d1, d2⟩ := h.putC (by simp; omega) v
  refine ⟨by rw [y8]; exact d1, by rw [y2]; rfl, ?_, by omega, by omega, by omega, by omega, by rw [y1, y9]; simp, by rw [y9]; simp; omega, by omega, by omega⟩
  rw [y8, d2, y9, y1]
  simp [slotsG]
end
section
variable {ν ν2 : Env Gh} {x : Vals Gh} {b : Int} {n : Nat}
theorem w1_1 (hI : ν.I = inM) (F : FL ν) (rf : RF nLa ν x ν2) (hi : x.i 0 < (ν.l 0).length) (J : JL ν x b n) (hr : x.i 2 < ν.i 11) (hc : x.i 2 + 1 ≤ x.i 3) : ∀ t ∈ u1_1, pcDen ν2 t.pc → GL ν ν2 (mL1 ν x) t := by
  have q0 : ν2.i (nLa + 0) = x.i 0 := rf.i 0 (by decide)
  have q1 : ν2.i (nLa + 1) = x.i 1 := rf.i 1 (by decide)
  have q2 : ν2.i (nLa + 2) = x.i 2 := rf.i 2 (by decide)
  have q3 : ν2.i (nLa + 3) = x.i 3 := rf.i 3 (by decide)
  have q4 : ν2.i (nLa + 4) = x.i 4 := rf.i 4 (by decide)
  have q8 : ν2.l (nLa + 8) = x.l 8 := rf.l 8 (by decide)
  have q9 : ν2.l (nLa + 9) = x.l 9 := rf.l 9 (by decide)
  have q11 : ν2.i 11 = ν.i 11 := rf.io 11 (by decide)
  have ql : ν2.l 0 = ν.l 0 := rf.lo 0 (by decide)
  have hI2 : ν2.I = inM := rf.I.trans hI
  intro t ht hpc
  simp only [u1_1, List.mem_cons, List.not_mem_nil, or_false] at ht
  rcases ht with rfl | rfl
  · refine ⟨rfl, ⟨_, _, J.pushedRoom (IntKind.u64.wrap ((ν.l 0).getD (x.i 0).toNat 0 * 3)) hr hc hi F (by simp only [Mt.vals, lkp_cons, lkp_nil, Nat.reduceEqDiff, reduceIte, SI.den, SL.den, q0, q1, q2, q3, q4, q8, q9, q11, ql, Int.toNat_zero, one, putC, takeC]) (by simp only [Mt.vals, lkp_cons, lkp_nil, Nat.reduceEqDiff, reduceIte, SI.den, SL.den, q0, q1, q2, q3, q4, q8, q9, q11, ql, Int.toNat_zero, one, putC, takeC]) (by simp only [Mt.vals, lkp_cons, lkp_nil, Nat.reduceEqDiff, reduceIte, SI.den, SL.den, q0, q1, q2, q3, q4, q8, q9, q11, ql, Int.toNat_zero, one, putC, takeC]) (by simp only [Mt.vals, lkp_cons, lkp_nil, Nat.reduceEqDiff, reduceIte, SI.den, SL.den, q0, q1, q2, q3, q4, q8, q9, q11, ql, Int.toNat_zero, one, putC, takeC]) (by simp only [Mt.vals, lkp_cons, lkp_nil, Nat.reduceEqDiff, reduceIte, SI.den, SL.den, q0, q1, q2, q3, q4, q8, q9, q11, ql, Int.toNat_zero, one, putC, takeC]) (by simp only [Mt.vals, lkp_cons, lkp_nil, Nat.reduceEqDiff, reduceIte, SI.den, SL.den, q0, q1, q2, q3, q4, q8, q9, q11, ql, Int.toNat_zero, one, putC, takeC]) (by simp only [Mt.vals, lkp_cons, lkp_nil, Nat.reduceEqDiff, reduceIte, SI.den, SL.den, q0, q1, q2, q3, q4, q8, q9, q11, ql, Int.toNat_zero, one, putC, takeC])⟩, ?_, owedL J.lq rf (by simp only [SL.den, q8, List.length_set])⟩
    show ((ν.l 0).length - Vals.i (Mt.vals _ _ _) 0).toNat < ((ν.l 0).length - x.i 0).toNat
    simp only [Mt.vals, lkp_cons, lkp_nil, Nat.reduceEqDiff, reduceIte, SI.den, SL.den, q0, q1, q2, q3, q4, q8, q9, q11, ql, Int.toNat_zero, one, putC, takeC]
    omega
  · exfalso
    have c := pcAt hpc 3 rfl
    obtain ⟨d, e⟩ := J.lq.putC (by have := J.n2; omega) (IntKind.u64.wrap ((ν.l 0).getD (x.i 0).toNat 0 * 3))
    unfold putC at d e
    rw [eqW_den hI2] at c
    simp only [gl41_den hI2] at c
    simp only [SI.den, SL.den, q0, q1, q2, q3, q8, q9, q11, ql, Int.toNat_zero, one] at c
    rw [d.all, e] at c
    rw [beq_eq_false_iff_ne] at c
    exact c (by rw [J.same]; exact J.roomList _)
theorem w1_2 (hI : ν.I = inM) (F : FL ν) (rf : RF nLa ν x ν2) (hi : x.i 0 < (ν.l 0).length) (J : JL ν x b n) (hr : x.i 2 < ν.i 11) : ∀ t ∈ u1_2, pcDen ν2 t.pc → GL ν ν2 (mL1 ν x) t := by
  have q0 : ν2.i (nLa + 0) = x.i 0 := rf.i 0 (by decide)
  have q1 : ν2.i (nLa + 1) = x.i 1 := rf.i 1 (by decide)
  have q2 : ν2.i (nLa + 2) = x.i 2 := rf.i 2 (by decide)
  have q3 : ν2.i (nLa + 3) = x.i 3 := rf.i 3 (by decide)
  have q4 : ν2.i (nLa + 4) = x.i 4 := rf.i 4 (by decide)
  have q8 : ν2.l (nLa + 8) = x.l 8 := rf.l 8 (by decide)
  have q9 : ν2.l (nLa + 9) = x.l 9 := rf.l 9 (by decide)
  have q11 : ν2.i 11 = ν.i 11 := rf.io 11 (by decide)
  have ql : ν2.l 0 = ν.l 0 := rf.lo 0 (by decide)
  have hI2 : ν2.I = inM := rf.I.trans hI
  intro t ht hpc
  simp only [u1_2, List.mem_cons, List.not_mem_nil, or_false] at ht
  rcases ht with rfl | rfl
  · have cc := lt_den (pcAt hpc 1 rfl)
    simp only [SI.den, SL.den, q1, q2, q9, Bool.false_eq_true, iff_false] at cc
    refine ⟨rfl, ⟨_, _, J.pushedGrow (IntKind.u64.wrap ((ν.l 0).getD (x.i 0).toNat 0 * 3)) hr hi F (by simp only [Mt.vals, lkp_cons, lkp_nil, Nat.reduceEqDiff, reduceIte, SI.den, SL.den, q0, q1, q2, q3, q4, q8, q9, q11, ql, Int.toNat_zero, one, putC, takeC]) (by simp only [Mt.vals, lkp_cons, lkp_nil, Nat.reduceEqDiff, reduceIte, SI.den, SL.den, q0, q1, q2, q3, q4, q8, q9, q11, ql, Int.toNat_zero, one, putC, takeC]) (by simp only [Mt.vals, lkp_cons, lkp_nil, Nat.reduceEqDiff, reduceIte, SI.den, SL.den, q0, q1, q2, q3, q4, q8, q9, q11, ql, Int.toNat_zero, one, putC, takeC]) (by simp only [Mt.vals, lkp_cons, lkp_nil, Nat.reduceEqDiff, reduceIte, SI.den, SL.den, q0, q1, q2, q3, q4, q8, q9, q11, ql, Int.toNat_zero, one, putC, takeC]) (by simp only [Mt.vals, lkp_cons, lkp_nil, Nat.reduceEqDiff, reduceIte, SI.den, SL.den, q0, q1, q2, q3, q4, q8, q9, q11, ql, Int.toNat_zero, one, putC, takeC]) (by simp only [Mt.vals, lkp_cons, lkp_nil, Nat.reduceEqDiff, reduceIte, SI.den, SL.den, q0, q1, q2, q3, q4, q8, q9, q11, ql, Int.toNat_zero, one, putC, takeC]) (by simp only [Mt.vals, lkp_cons, lkp_nil, Nat.reduceEqDiff, reduceIte, SI.den, SL.den, q0, q1, q2, q3, q4, q8, q9, q11, ql, Int.toNat_zero, one, putC, takeC, List.length_append, List.length_cons, List.length_nil]; omega)⟩, ?_, owedL J.lq rf (by simp only [SL.den, q8, List.length_set])⟩
    show ((ν.l 0).length - Vals.i (Mt.vals _ _ _) 0).toNat < ((ν.l 0).length - x.i 0).toNat
    simp only [Mt.vals, lkp_cons, lkp_nil, Nat.reduceEqDiff, reduceIte, SI.den, SL.den, q0, q1, q2, q3, q4, q8, q9, q11, ql, Int.toNat_zero, one, putC, takeC]
    omega
  · exfalso
    have c := pcAt hpc 3 rfl
    obtain ⟨d, e⟩ := J.lq.putC (by have := J.n2; omega) (IntKind.u64.wrap ((ν.l 0).getD (x.i 0).toNat 0 * 3))
    unfold putC at d e
    rw [eqW_den hI2] at c
    simp only [gl41_den hI2] at c
    simp only [SI.den, SL.den, q0, q1, q2, q3, q8, q9, q11, ql, Int.toNat_zero, one] at c
    rw [d.all, e] at c
    rw [beq_eq_false_iff_ne] at c
    exact c (by rw [J.same]; exact J.growList _)
theorem w1_3 (hI : ν.I = inM) (F : FL ν) (rf : RF nLa ν x ν2) (hi : x.i 0 < (ν.l 0).length) (J : JL ν x b n) : ∀ t ∈ u1_3, pcDen ν2 t.pc → GL ν ν2 (mL1 ν x) t := by
  have q0 : ν2.i (nLa + 0) = x.i 0 := rf.i 0 (by decide)
  have q1 : ν2.i (nLa + 1) = x.i 1 := rf.i 1 (by decide)
  have q2 : ν2.i (nLa + 2) = x.i 2 := rf.i 2 (by decide)
  have q3 : ν2.i (nLa + 3) = x.i 3 := rf.i 3 (by decide)
  have q4 : ν2.i (nLa + 4) = x.i 4 := rf.i 4 (by decide)
  have q8 : ν2.l (nLa + 8) = x.l 8 := rf.l 8 (by decide)
  have q9 : ν2.l (nLa + 9) = x.l 9 := rf.l 9 (by decide)
  have q11 : ν2.i 11 = ν.i 11 := rf.io 11 (by decide)
  have ql : ν2.l 0 = ν.l 0 := rf.lo 0 (by decide)
  have hI2 : ν2.I = inM := rf.I.trans hI
  intro t ht hpc
  simp only [u1_3, List.mem_cons, List.not_mem_nil, or_false] at ht
  rcases ht with rfl | rfl
  · refine ⟨rfl, ⟨_, _, J.idle hi (by simp only [Mt.vals, lkp_cons, lkp_nil, Nat.reduceEqDiff, reduceIte, SI.den, SL.den, q0, q1, q2, q3, q4, q8, q9, q11, ql, Int.toNat_zero, one, putC, takeC]) (by simp only [Mt.vals, lkp_cons, lkp_nil, Nat.reduceEqDiff, reduceIte, SI.den, SL.den, q0, q1, q2, q3, q4, q8, q9, q11, ql, Int.toNat_zero, one, putC, takeC]) (by simp only [Mt.vals, lkp_cons, lkp_nil, Nat.reduceEqDiff, reduceIte, SI.den, SL.den, q0, q1, q2, q3, q4, q8, q9, q11, ql, Int.toNat_zero, one, putC, takeC]) (by simp only [Mt.vals, lkp_cons, lkp_nil, Nat.reduceEqDiff, reduceIte, SI.den, SL.den, q0, q1, q2, q3, q4, q8, q9, q11, ql, Int.toNat_zero, one, putC, takeC]) (by simp only [Mt.vals, lkp_cons, lkp_nil, Nat.reduceEqDiff, reduceIte, SI.den, SL.den, q0, q1, q2, q3, q4, q8, q9, q11, ql, Int.toNat_zero, one, putC, takeC]) (by simp only [Mt.vals, lkp_cons, lkp_nil, Nat.reduceEqDiff, reduceIte, SI.den, SL.den, q0, q1, q2, q3, q4, q8, q9, q11, ql, Int.toNat_zero, one, putC, takeC]) (by simp only [Mt.vals, lkp_cons, lkp_nil, Nat.reduceEqDiff, reduceIte, SI.den, SL.den, q0, q1, q2, q3, q4, q8, q9, q11, ql, Int.toNat_zero, one, putC, takeC])⟩, ?_, owedL J.lq rf (by simp only [SL.den, q8, List.length_set])⟩
    show ((ν.l 0).length - Vals.i (Mt.vals _ _ _) 0).toNat < ((ν.l 0).length - x.i 0).toNat
    simp only [Mt.vals, lkp_cons, lkp_nil, Nat.reduceEqDiff, reduceIte, SI.den, SL.den, q0, q1, q2, q3, q4, q8, q9, q11, ql, Int.toNat_zero, one, putC, takeC]
    omega
  · exfalso
    have c := pcAt hpc 3 rfl
    have d := J.lq
    have e := J.same
    rw [eqW_den hI2] at c
    simp only [gl41_den hI2] at c
    simp only [SI.den, SL.den, q0, q1, q2, q3, q8, q9, q11, ql, Int.toNat_zero, one] at c
    rw [d.all, e] at c
    rw [beq_eq_false_iff_ne] at c
    exact c (by congr 1; have := J.n2; omega)
theorem w1_4 (hI : ν.I = inM) (F : FL ν) (rf : RF nLa ν x ν2) (hi : x.i 0 < (ν.l 0).length) (J : JL ν x b n) : ∀ t ∈ u1_4, pcDen ν2 t.pc → GL ν ν2 (mL1 ν x) t := by
  have q0 : ν2.i (nLa + 0) = x.i 0 := rf.i 0 (by decide)
  have q1 : ν2.i (nLa + 1) = x.i 1 := rf.i 1 (by decide)
  have q2 : ν2.i (nLa + 2) = x.i 2 := rf.i 2 (by decide)
  have q3 : ν2.i (nLa + 3) = x.i 3 := rf.i 3 (by decide)
  have q4 : ν2.i (nLa + 4) = x.i 4 := rf.i 4 (by decide)
  have q8 : ν2.l (nLa + 8) = x.l 8 := rf.l 8 (by decide)
  have q9 : ν2.l (nLa + 9) = x.l 9 := rf.l 9 (by decide)
  have q11 : ν2.i 11 = ν.i 11 := rf.io 11 (by decide)
  have ql : ν2.l 0 = ν.l 0 := rf.lo 0 (by decide)
  have hI2 : ν2.I = inM := rf.I.trans hI
  intro t ht hpc
  simp only [u1_4, List.mem_cons, List.not_mem_nil, or_false] at ht
  rcases ht with rfl
  · refine ⟨rfl, ⟨_, _, J.idle hi (by simp only [Mt.vals, lkp_cons, lkp_nil, Nat.reduceEqDiff, reduceIte, SI.den, SL.den, q0, q1, q2, q3, q4, q8, q9, q11, ql, Int.toNat_zero, one, putC, takeC]) (by simp only [Mt.vals, lkp_cons, lkp_nil, Nat.reduceEqDiff, reduceIte, SI.den, SL.den, q0, q1, q2, q3, q4, q8, q9, q11, ql, Int.toNat_zero, one, putC, takeC]) (by simp only [Mt.vals, lkp_cons, lkp_nil, Nat.reduceEqDiff, reduceIte, SI.den, SL.den, q0, q1, q2, q3, q4, q8, q9, q11, ql, Int.toNat_zero, one, putC, takeC]) (by simp only [Mt.vals, lkp_cons, lkp_nil, Nat.reduceEqDiff, reduceIte, SI.den, SL.den, q0, q1, q2, q3, q4, q8, q9, q11, ql, Int.toNat_zero, one, putC, takeC]) (by simp only [Mt.vals, lkp_cons, lkp_nil, Nat.reduceEqDiff, reduceIte, SI.den, SL.den, q0, q1, q2, q3, q4, q8, q9, q11, ql, Int.toNat_zero, one, putC, takeC]) (by simp only [Mt.vals, lkp_cons, lkp_nil, Nat.reduceEqDiff, reduceIte, SI.den, SL.den, q0, q1, q2, q3, q4, q8, q9, q11, ql, Int.toNat_zero, one, putC, takeC]) (by simp only [Mt.vals, lkp_cons, lkp_nil, Nat.reduceEqDiff, reduceIte, SI.den, SL.den, q0, q1, q2, q3, q4, q8, q9, q11, ql, Int.toNat_zero, one, putC, takeC])⟩, ?_, owedL J.lq rf (by simp only [SL.den, q8, List.length_set])⟩
    show ((ν.l 0).length - Vals.i (Mt.vals _ _ _) 0).toNat < ((ν.l 0).length - x.i 0).toNat
    simp only [Mt.vals, lkp_cons, lkp_nil, Nat.reduceEqDiff, reduceIte, SI.den, SL.den, q0, q1, q2, q3, q4, q8, q9, q11, ql, Int.toNat_zero, one, putC, takeC]
    omega
theorem w1_5 (hI : ν.I = inM) (F : FL ν) (rf : RF nLa ν x ν2) (hi : x.i 0 < (ν.l 0).length) (J : JL ν x b (0 + 1)) : ∀ t ∈ u1_5, pcDen ν2 t.pc → GL ν ν2 (mL1 ν x) t := by
  have q0 : ν2.i (nLa + 0) = x.i 0 := rf.i 0 (by decide)
  have q1 : ν2.i (nLa + 1) = x.i 1 := rf.i 1 (by decide)
  have q2 : ν2.i (nLa + 2) = x.i 2 := rf.i 2 (by decide)
  have q3 : ν2.i (nLa + 3) = x.i 3 := rf.i 3 (by decide)
  have q4 : ν2.i (nLa + 4) = x.i 4 := rf.i 4 (by decide)
  have q8 : ν2.l (nLa + 8) = x.l 8 := rf.l 8 (by decide)
  have q9 : ν2.l (nLa + 9) = x.l 9 := rf.l 9 (by decide)
  have q11 : ν2.i 11 = ν.i 11 := rf.io 11 (by decide)
  have ql : ν2.l 0 = ν.l 0 := rf.lo 0 (by decide)
  have hI2 : ν2.I = inM := rf.I.trans hI
  intro t ht hpc
  simp only [u1_5, List.mem_cons, List.not_mem_nil, or_false] at ht
  rcases ht with rfl | rfl
  · refine ⟨rfl, ⟨_, _, J.takenEnd hi (by simp only [Mt.vals, lkp_cons, lkp_nil, Nat.reduceEqDiff, reduceIte, SI.den, SL.den, q0, q1, q2, q3, q4, q8, q9, q11, ql, Int.toNat_zero, one, putC, takeC]) (by simp only [Mt.vals, lkp_cons, lkp_nil, Nat.reduceEqDiff, reduceIte, SI.den, SL.den, q0, q1, q2, q3, q4, q8, q9, q11, ql, Int.toNat_zero, one, putC, takeC]) (by simp only [Mt.vals, lkp_cons, lkp_nil, Nat.reduceEqDiff, reduceIte, SI.den, SL.den, q0, q1, q2, q3, q4, q8, q9, q11, ql, Int.toNat_zero, one, putC, takeC]) (by simp only [Mt.vals, lkp_cons, lkp_nil, Nat.reduceEqDiff, reduceIte, SI.den, SL.den, q0, q1, q2, q3, q4, q8, q9, q11, ql, Int.toNat_zero, one, putC, takeC]) (by simp only [Mt.vals, lkp_cons, lkp_nil, Nat.reduceEqDiff, reduceIte, SI.den, SL.den, q0, q1, q2, q3, q4, q8, q9, q11, ql, Int.toNat_zero, one, putC, takeC]) (by simp only [Mt.vals, lkp_cons, lkp_nil, Nat.reduceEqDiff, reduceIte, SI.den, SL.den, q0, q1, q2, q3, q4, q8, q9, q11, ql, Int.toNat_zero, one, putC, takeC]) (by simp only [Mt.vals, lkp_cons, lkp_nil, Nat.reduceEqDiff, reduceIte, SI.den, SL.den, q0, q1, q2, q3, q4, q8, q9, q11, ql, Int.toNat_zero, one, putC, takeC])⟩, ?_, owedL J.lq rf (by simp only [SL.den, q8, List.length_set])⟩
    show ((ν.l 0).length - Vals.i (Mt.vals _ _ _) 0).toNat < ((ν.l 0).length - x.i 0).toNat
    simp only [Mt.vals, lkp_cons, lkp_nil, Nat.reduceEqDiff, reduceIte, SI.den, SL.den, q0, q1, q2, q3, q4, q8, q9, q11, ql, Int.toNat_zero, one, putC, takeC]
    omega
  · exfalso
    have c := pcAt hpc 2 rfl
    simp only [SB.den] at c
    simp only [SI.den, SL.den, q0, q1, q2, q8, q9, q11, Int.toNat_zero, one] at c
    rw [J.first] at c
    simp at c
theorem w1_6 (hI : ν.I = inM) (F : FL ν) (rf : RF nLa ν x ν2) (hi : x.i 0 < (ν.l 0).length) (J : JL ν x b (0 + 1)) : ∀ t ∈ u1_6, pcDen ν2 t.pc → GL ν ν2 (mL1 ν x) t := by
  have q0 : ν2.i (nLa + 0) = x.i 0 := rf.i 0 (by decide)
  have q1 : ν2.i (nLa + 1) = x.i 1 := rf.i 1 (by decide)
  have q2 : ν2.i (nLa + 2) = x.i 2 := rf.i 2 (by decide)
  have q3 : ν2.i (nLa + 3) = x.i 3 := rf.i 3 (by decide)
  have q4 : ν2.i (nLa + 4) = x.i 4 := rf.i 4 (by decide)
  have q8 : ν2.l (nLa + 8) = x.l 8 := rf.l 8 (by decide)
  have q9 : ν2.l (nLa + 9) = x.l 9 := rf.l 9 (by decide)
  have q11 : ν2.i 11 = ν.i 11 := rf.io 11 (by decide)
  have ql : ν2.l 0 = ν.l 0 := rf.lo 0 (by decide)
  have hI2 : ν2.I = inM := rf.I.trans hI
  intro t ht hpc
  simp only [u1_6, List.mem_cons, List.not_mem_nil, or_false] at ht
  rcases ht with rfl | rfl
  · refine ⟨rfl, ⟨_, _, J.taken hi (by simp only [Mt.vals, lkp_cons, lkp_nil, Nat.reduceEqDiff, reduceIte, SI.den, SL.den, q0, q1, q2, q3, q4, q8, q9, q11, ql, Int.toNat_zero, one, putC, takeC]) (by simp only [Mt.vals, lkp_cons, lkp_nil, Nat.reduceEqDiff, reduceIte, SI.den, SL.den, q0, q1, q2, q3, q4, q8, q9, q11, ql, Int.toNat_zero, one, putC, takeC]) (by simp only [Mt.vals, lkp_cons, lkp_nil, Nat.reduceEqDiff, reduceIte, SI.den, SL.den, q0, q1, q2, q3, q4, q8, q9, q11, ql, Int.toNat_zero, one, putC, takeC]) (by simp only [Mt.vals, lkp_cons, lkp_nil, Nat.reduceEqDiff, reduceIte, SI.den, SL.den, q0, q1, q2, q3, q4, q8, q9, q11, ql, Int.toNat_zero, one, putC, takeC]) (by simp only [Mt.vals, lkp_cons, lkp_nil, Nat.reduceEqDiff, reduceIte, SI.den, SL.den, q0, q1, q2, q3, q4, q8, q9, q11, ql, Int.toNat_zero, one, putC, takeC]) (by simp only [Mt.vals, lkp_cons, lkp_nil, Nat.reduceEqDiff, reduceIte, SI.den, SL.den, q0, q1, q2, q3, q4, q8, q9, q11, ql, Int.toNat_zero, one, putC, takeC]) (by simp only [Mt.vals, lkp_cons, lkp_nil, Nat.reduceEqDiff, reduceIte, SI.den, SL.den, q0, q1, q2, q3, q4, q8, q9, q11, ql, Int.toNat_zero, one, putC, takeC])⟩, ?_, owedL J.lq rf (by simp only [SL.den, q8, List.length_set])⟩
    show ((ν.l 0).length - Vals.i (Mt.vals _ _ _) 0).toNat < ((ν.l 0).length - x.i 0).toNat
    simp only [Mt.vals, lkp_cons, lkp_nil, Nat.reduceEqDiff, reduceIte, SI.den, SL.den, q0, q1, q2, q3, q4, q8, q9, q11, ql, Int.toNat_zero, one, putC, takeC]
    omega
  · exfalso
    have c := pcAt hpc 2 rfl
    simp only [SB.den] at c
    simp only [SI.den, SL.den, q0, q1, q2, q8, q9, q11, Int.toNat_zero, one] at c
    rw [J.first] at c
    simp at c
theorem w1_7 (hI : ν.I = inM) (F : FL ν) (rf : RF nLa ν x ν2) (hi : x.i 0 < (ν.l 0).length) (J : JL ν x b (n + 1)) : ∀ t ∈ u1_7, pcDen ν2 t.pc → GL ν ν2 (mL1 ν x) t := by
  have q0 : ν2.i (nLa + 0) = x.i 0 := rf.i 0 (by decide)
  have q1 : ν2.i (nLa + 1) = x.i 1 := rf.i 1 (by decide)
  have q2 : ν2.i (nLa + 2) = x.i 2 := rf.i 2 (by decide)
  have q3 : ν2.i (nLa + 3) = x.i 3 := rf.i 3 (by decide)
  have q4 : ν2.i (nLa + 4) = x.i 4 := rf.i 4 (by decide)
  have q8 : ν2.l (nLa + 8) = x.l 8 := rf.l 8 (by decide)
  have q9 : ν2.l (nLa + 9) = x.l 9 := rf.l 9 (by decide)
  have q11 : ν2.i 11 = ν.i 11 := rf.io 11 (by decide)
  have ql : ν2.l 0 = ν.l 0 := rf.lo 0 (by decide)
  have hI2 : ν2.I = inM := rf.I.trans hI
  intro t ht hpc
  simp only [u1_7, List.mem_cons, List.not_mem_nil, or_false] at ht
  rcases ht with rfl | rfl | rfl
  · refine ⟨rfl, ⟨_, _, J.taken hi (by simp only [Mt.vals, lkp_cons, lkp_nil, Nat.reduceEqDiff, reduceIte, SI.den, SL.den, q0, q1, q2, q3, q4, q8, q9, q11, ql, Int.toNat_zero, one, putC, takeC]) (by simp only [Mt.vals, lkp_cons, lkp_nil, Nat.reduceEqDiff, reduceIte, SI.den, SL.den, q0, q1, q2, q3, q4, q8, q9, q11, ql, Int.toNat_zero, one, putC, takeC]) (by simp only [Mt.vals, lkp_cons, lkp_nil, Nat.reduceEqDiff, reduceIte, SI.den, SL.den, q0, q1, q2, q3, q4, q8, q9, q11, ql, Int.toNat_zero, one, putC, takeC]) (by simp only [Mt.vals, lkp_cons, lkp_nil, Nat.reduceEqDiff, reduceIte, SI.den, SL.den, q0, q1, q2, q3, q4, q8, q9, q11, ql, Int.toNat_zero, one, putC, takeC]) (by simp only [Mt.vals, lkp_cons, lkp_nil, Nat.reduceEqDiff, reduceIte, SI.den, SL.den, q0, q1, q2, q3, q4, q8, q9, q11, ql, Int.toNat_zero, one, putC, takeC]) (by simp only [Mt.vals, lkp_cons, lkp_nil, Nat.reduceEqDiff, reduceIte, SI.den, SL.den, q0, q1, q2, q3, q4, q8, q9, q11, ql, Int.toNat_zero, one, putC, takeC]) (by simp only [Mt.vals, lkp_cons, lkp_nil, Nat.reduceEqDiff, reduceIte, SI.den, SL.den, q0, q1, q2, q3, q4, q8, q9, q11, ql, Int.toNat_zero, one, putC, takeC])⟩, ?_, owedL J.lq rf (by simp only [SL.den, q8, List.length_set])⟩
    show ((ν.l 0).length - Vals.i (Mt.vals _ _ _) 0).toNat < ((ν.l 0).length - x.i 0).toNat
    simp only [Mt.vals, lkp_cons, lkp_nil, Nat.reduceEqDiff, reduceIte, SI.den, SL.den, q0, q1, q2, q3, q4, q8, q9, q11, ql, Int.toNat_zero, one, putC, takeC]
    omega
  · exfalso
    have c := pcAt hpc 3 rfl
    obtain ⟨d, e⟩ := J.lq.takeC
    unfold takeC at d e
    rw [eqW_den hI2] at c
    simp only [gl41_den hI2] at c
    simp only [SI.den, SL.den, q0, q1, q2, q3, q8, q9, q11, ql, Int.toNat_zero, one] at c
    rw [d.all, e] at c
    rw [beq_eq_false_iff_ne] at c
    exact c (by rw [J.same, List.drop_take, List.drop_drop]; have := J.n2; have := J.o0; congr 2 <;> omega)
  · exfalso
    have c := pcAt hpc 3 rfl
    simp only [SB.den] at c
    simp only [SI.den, SL.den, q0, q1, q2, q8, q9, q11, Int.toNat_zero, one] at c
    rw [J.first] at c
    simp at c
theorem w0_1 (hI : ν.I = inM) (F : FL ν) (rf : RF nLa ν x ν2) (hi : 0 < (ν.l 0).length) (J : LQ (x.l 8) (ν.i 11) b 0) : ∀ t ∈ u0_1, pcDen ν2 t.pc → GL ν ν2 ((ν.l 0).length + 1) t := by
  have q0 : ν2.i (nLa + 0) = x.i 0 := rf.i 0 (by decide)
  have q1 : ν2.i (nLa + 1) = x.i 1 := rf.i 1 (by decide)
  have q2 : ν2.i (nLa + 2) = x.i 2 := rf.i 2 (by decide)
  have q3 : ν2.i (nLa + 3) = x.i 3 := rf.i 3 (by decide)
  have q4 : ν2.i (nLa + 4) = x.i 4 := rf.i 4 (by decide)
  have q8 : ν2.l (nLa + 8) = x.l 8 := rf.l 8 (by decide)
  have q9 : ν2.l (nLa + 9) = x.l 9 := rf.l 9 (by decide)
  have q11 : ν2.i 11 = ν.i 11 := rf.io 11 (by decide)
  have ql : ν2.l 0 = ν.l 0 := rf.lo 0 (by decide)
  have hI2 : ν2.I = inM := rf.I.trans hI
  intro t ht hpc
  simp only [u0_1, List.mem_cons, List.not_mem_nil, or_false] at ht
  rcases ht with rfl | rfl
  · have cc := lt_den (pcAt hpc 1 rfl)
    simp only [SI.den, Bool.false_eq_true, iff_false] at cc
    refine ⟨rfl, ⟨_, _, JL.begin1 J F (IntKind.u64.wrap ((ν.l 0).getD 0 0 * 3)) hi (by simp only [Mt.vals, lkp_cons, lkp_nil, Nat.reduceEqDiff, reduceIte, SI.den, SL.den, q0, q1, q2, q3, q4, q8, q9, q11, ql, Int.toNat_zero, one, putC, takeC]) (by simp only [Mt.vals, lkp_cons, lkp_nil, Nat.reduceEqDiff, reduceIte, SI.den, SL.den, q0, q1, q2, q3, q4, q8, q9, q11, ql, Int.toNat_zero, one, putC, takeC]) (by simp only [Mt.vals, lkp_cons, lkp_nil, Nat.reduceEqDiff, reduceIte, SI.den, SL.den, q0, q1, q2, q3, q4, q8, q9, q11, ql, Int.toNat_zero, one, putC, takeC]) (by simp only [Mt.vals, lkp_cons, lkp_nil, Nat.reduceEqDiff, reduceIte, SI.den, SL.den, q0, q1, q2, q3, q4, q8, q9, q11, ql, Int.toNat_zero, one, putC, takeC]) (by simp only [Mt.vals, lkp_cons, lkp_nil, Nat.reduceEqDiff, reduceIte, SI.den, SL.den, q0, q1, q2, q3, q4, q8, q9, q11, ql, Int.toNat_zero, one, putC, takeC]) (by simp only [Mt.vals, lkp_cons, lkp_nil, Nat.reduceEqDiff, reduceIte, SI.den, SL.den, q0, q1, q2, q3, q4, q8, q9, q11, ql, Int.toNat_zero, one, putC, takeC]) (by simp only [Mt.vals, lkp_cons, lkp_nil, Nat.reduceEqDiff, reduceIte, SI.den, SL.den, q0, q1, q2, q3, q4, q8, q9, q11, ql, Int.toNat_zero, one, putC, takeC]; omega)⟩, ?_, owedL J rf (by simp only [SL.den, q8, List.length_set])⟩
    show ((ν.l 0).length - Vals.i (Mt.vals _ _ _) 0).toNat < (ν.l 0).length + 1
    simp only [Mt.vals, lkp_cons, lkp_nil, Nat.reduceEqDiff, reduceIte, SI.den, SL.den, q0, q1, q2, q3, q4, q8, q9, q11, ql, Int.toNat_zero, one, putC, takeC]
    omega
  · exfalso
    have c := pcAt hpc 3 rfl
    obtain ⟨d, e⟩ := J.putC (by have := F.pow.le; simp; omega) (IntKind.u64.wrap ((ν.l 0).getD 0 0 * 3))
    unfold putC at d e
    rw [eqW_den hI2] at c
    simp only [gl41_den hI2] at c
    simp only [SI.den, SL.den, q0, q1, q2, q3, q8, q9, q11, ql, Int.toNat_zero, one] at c
    rw [d.all, e] at c
    rw [beq_eq_false_iff_ne] at c
    exact c (by simp [slotsG])
theorem w0_2 (hI : ν.I = inM) (F : FL ν) (rf : RF nLa ν x ν2) (hi : 0 < (ν.l 0).length) (J : LQ (x.l 8) (ν.i 11) b 0) : ∀ t ∈ u0_2, pcDen ν2 t.pc → GL ν ν2 ((ν.l 0).length + 1) t := by
  have q0 : ν2.i (nLa + 0) = x.i 0 := rf.i 0 (by decide)
  have q1 : ν2.i (nLa + 1) = x.i 1 := rf.i 1 (by decide)
  have q2 : ν2.i (nLa + 2) = x.i 2 := rf.i 2 (by decide)
  have q3 : ν2.i (nLa + 3) = x.i 3 := rf.i 3 (by decide)
  have q4 : ν2.i (nLa + 4) = x.i 4 := rf.i 4 (by decide)
  have q8 : ν2.l (nLa + 8) = x.l 8 := rf.l 8 (by decide)
  have q9 : ν2.l (nLa + 9) = x.l 9 := rf.l 9 (by decide)
  have q11 : ν2.i 11 = ν.i 11 := rf.io 11 (by decide)
  have ql : ν2.l 0 = ν.l 0 := rf.lo 0 (by decide)
  have hI2 : ν2.I = inM := rf.I.trans hI
  intro t ht hpc
  simp only [u0_2, List.mem_cons, List.not_mem_nil, or_false] at ht
  rcases ht with rfl
  · refine ⟨rfl, ⟨_, _, JL.begin_ J hi (by simp only [Mt.vals, lkp_cons, lkp_nil, Nat.reduceEqDiff, reduceIte, SI.den, SL.den, q0, q1, q2, q3, q4, q8, q9, q11, ql, Int.toNat_zero, one, putC, takeC]) (by simp only [Mt.vals, lkp_cons, lkp_nil, Nat.reduceEqDiff, reduceIte, SI.den, SL.den, q0, q1, q2, q3, q4, q8, q9, q11, ql, Int.toNat_zero, one, putC, takeC]) (by simp only [Mt.vals, lkp_cons, lkp_nil, Nat.reduceEqDiff, reduceIte, SI.den, SL.den, q0, q1, q2, q3, q4, q8, q9, q11, ql, Int.toNat_zero, one, putC, takeC]) (by simp only [Mt.vals, lkp_cons, lkp_nil, Nat.reduceEqDiff, reduceIte, SI.den, SL.den, q0, q1, q2, q3, q4, q8, q9, q11, ql, Int.toNat_zero, one, putC, takeC]) (by simp only [Mt.vals, lkp_cons, lkp_nil, Nat.reduceEqDiff, reduceIte, SI.den, SL.den, q0, q1, q2, q3, q4, q8, q9, q11, ql, Int.toNat_zero, one, putC, takeC]) (by simp only [Mt.vals, lkp_cons, lkp_nil, Nat.reduceEqDiff, reduceIte, SI.den, SL.den, q0, q1, q2, q3, q4, q8, q9, q11, ql, Int.toNat_zero, one, putC, takeC]) (by simp only [Mt.vals, lkp_cons, lkp_nil, Nat.reduceEqDiff, reduceIte, SI.den, SL.den, q0, q1, q2, q3, q4, q8, q9, q11, ql, Int.toNat_zero, one, putC, takeC])⟩, ?_, owedL J rf (by simp only [SL.den, q8, List.length_set])⟩
    show ((ν.l 0).length - Vals.i (Mt.vals _ _ _) 0).toNat < (ν.l 0).length + 1
    simp only [Mt.vals, lkp_cons, lkp_nil, Nat.reduceEqDiff, reduceIte, SI.den, SL.den, q0, q1, q2, q3, q4, q8, q9, q11, ql, Int.toNat_zero, one, putC, takeC]
    omega
end
end Go.Proofs.Ytlmenjenkpnacaa
end
