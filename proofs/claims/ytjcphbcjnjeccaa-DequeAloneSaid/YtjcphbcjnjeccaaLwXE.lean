/- DequeAlone's loop: what holds at a round, and stays. -/
import Derived.Test.YtjcphbcjnjeccaaLwDnT
import Derived.Test.YtjcphbcjnjeccaaLwXD
set_option linter.unusedVariables false
set_option linter.unusedSimpArgs false

section
namespace Go.Proofs.Ytjcphbcjnjeccaa
open Go Go.Sy Go.RowKit

theorem pcAt {G : Type} {ν : Env G} {pc : PC} (h : pcDen ν pc) (k : Nat) {c : SB} {b : Bool} (hk : pc[k]? = some (c, b)) : c.den ν = b := h c b (List.mem_of_getElem? hk)
structure FD (ν : Env Gh) : Prop where
  pow : Pow (ν.i 11)
  le : ν.i 11 ≤ 32
  len : (ν.l 0).length ≤ 100
  f0 : 0 ≤ ν.i 12
  f1 : ν.i 12 < 18446744073709551616
  rng : ∀ x ∈ ν.l 0, 0 ≤ x ∧ x ≤ 255
theorem range_den {ν : Env Gh} (hI : ν.I = inM) (l : SL) (a b : Int) : (rangeB l a b).den ν = true ↔ ∀ x ∈ l.den ν, a ≤ x ∧ x ≤ b := by
  simp only [rangeB, SB.den, SG.den, SI.den, hI, inM, xga]
  simp
theorem fD {ν : Env Gh} (hI : ν.I = inM) (h : pcDen ν pcEDn) : FD ν := by
  have h1 := pcAt h 5 rfl
  have h2 := pcAt h 4 rfl
  have h3 := pcAt h 7 rfl
  have h4 := pcAt h 8 rfl
  have h5 := pcAt h 9 rfl
  have h6 := pcAt h 10 rfl
  have h1 := (powB_den ν (.var 11)).1 h1
  simp only [SB.den] at h2 h3 h4 h5
  have h2 := of_decide_eq_false h2
  have h3 := of_decide_eq_false h3
  have h4 := of_decide_eq_false h4
  have h5 := of_decide_eq_false h5
  simp only [SI.den, SL.den] at h1 h2 h3 h4 h5
  exact ⟨h1, by omega, by omega, by omega, by omega, (range_den hI (.var 0) 0 255).1 h6⟩
theorem FD.elem {ν : Env Gh} (F : FD ν) (i : Nat) : 0 ≤ (ν.l 0).getD i 0 ∧ (ν.l 0).getD i 0 ≤ 255 := by
  rw [List.getD_eq_getElem?_getD]
  cases h : (ν.l 0)[i]? with
  | none => simp
  | some x => exact F.rng x (List.mem_of_getElem? h)
/-- At a round: the cells are a deque's, with the list's words. -/
structure J1 (ν : Env Gh) (x : Vals Gh) (t : Int) (n : Nat) : Prop where
  dq : DQ (x.l 8) (ν.i 11) t n
  n2 : x.i 2 = n
  same : sl (x.l 8) (ν.i 11) t n = ((x.l 9).drop (x.i 1).toNat).take n
  i0 : 0 ≤ x.i 0
  i1 : x.i 0 ≤ (ν.l 0).length
  o0 : 0 ≤ x.i 1
  o1 : x.i 1 ≤ x.i 0
  in0 : x.i 1 + n ≤ (x.l 9).length
  in1 : (x.l 9).length ≤ x.i 0 + 33
  room : x.i 1 + x.i 3 ≤ x.i 4
  cap : (n : Int) ≤ x.i 3
theorem wu (x : Int) : IntKind.u64.wrap x = x % 18446744073709551616 := wrapU x
theorem h1pc : (hdAt headsD 1).pc = pIn nDn szDn ++ (pSize szDn (.add szDn (.lit 2)) lDn ++ ([(.lt (dDn (.var nDn)) (.lit 0), false), (.lt (.lit 255) (dDn (.var nDn)), false)] ++ (pRow szDn tDn uDn nInDn ++ pcEDn))) := by kernel_rfl
theorem avE : pav nDn (nDn + 64) pcEDn = true := by kernel_rfl
attribute [local irreducible] nmAt
theorem row_pc {G : Type} {ν : Env G} {sz t u n : SI} {l : List Int} {k : Nat} (h : DQ l (sz.den ν) (t.den ν) k) (hu : u.den ν = l.getD 1 0) (hn : n.den ν = k) : pcDen ν (pRow sz t u n) := by
  have hp := h.pow
  have h0 := h.t0
  have h1 := h.t1
  have hr := h.room
  have hle := hp.le
  rw [h.bot] at hu
  simp only [pRow, slotX, manyOf, pcDen_cons_iff, pcDen_nil_iff, and_true, SB.den, beq_iff_eq]
  simp only [SI.den, SI.mkSub_den, SI.mkAdd_den, hu, hn]
  have s1 := slot_lt (t.den ν) _ hp
  have s2 := slot_lt ((t.den ν + k) % 18446744073709551616) _ hp
  have s3 := slot_lt (IntKind.u64.wrap ((t.den ν + k) % 18446744073709551616 - 1)) _ hp
  refine ⟨decide_eq_true (by omega), decide_eq_true (by omega), decide_eq_true (by omega), many_eq h0 h1 (by omega) (by omega), ?_, ?_, ?_, ?_⟩
  · simp only [wu, IntKind.wrap_i64]; omega
  · simp only [wu, IntKind.wrap_i64]; omega
  · simp only [wu, IntKind.wrap_i64]; omega
  · simp only [wu]; omega
theorem h1ok {ν : Env Gh} {x : Vals Gh} {t : Int} {n : Nat} (F : FD ν) (hp : pcDen ν pcEDn) (J : J1 ν x t n) : pcDen (ν.at nDn x) (hdAt headsD 1).pc := by
  rw [h1pc]
  have rf : RF nDn ν x (ν.at nDn x) := RF.self rfl
  have r0 : (ν.at nDn x).i nDn = x.i 0 := rf.i 0 (by decide)
  obtain ⟨dq, n2, same, i0, i1, o0, o1, in0, in1, room, cap⟩ := J
  have hl := dq.len
  have hr := dq.room
  have hw := dq.pow.le
  have F1 := F.le
  have F2 := F.len
  refine pcDen_append ?_ (pcDen_append ?_ (pcDen_append ?_ (pcDen_append ?_ (pcDen_agree (at_agree (ρ := fun _ => 0) (ρ' := fun _ => 0) (fun _ _ => rfl)) avE hp))))
  · simp only [pIn, szDn, pcDen_cons_iff, pcDen_nil_iff, and_true, SB.den]
    simp only [SI.den, SL.den, r0, rf.i 1 (by decide), rf.i 2 (by decide), rf.i 3 (by decide), rf.i 4 (by decide), rf.l 9 (by decide), rf.io 11 (by decide)]
    refine ⟨?_, ?_, ?_, ?_, ?_, ?_, ?_, ?_, ?_, ?_, ?_⟩ <;> exact decide_eq_false (by omega)
  · simp only [pSize, szDn, lDn, pcDen_cons_iff, pcDen_nil_iff, and_true, SB.den, beq_iff_eq]
    simp only [SI.den, SL.den, rf.l 8 (by decide), rf.io 11 (by decide)]
    exact ⟨bits_pow _ dq.pow, hl, decide_eq_true (by omega), decide_eq_true (by omega)⟩
  · have := F.elem (x.i 0).toNat
    simp only [dDn, pcDen_cons_iff, pcDen_nil_iff, and_true, SB.den]
    simp only [SI.den, SL.den, r0, rf.lo 0 (by decide)]
    exact ⟨decide_eq_false (by omega), decide_eq_false (by omega)⟩
  · have e0 : tDn.den (ν.at nDn x) = t := by
      simp only [tDn, SI.den, SL.den, rf.l 8 (by decide), Int.toNat_zero]; exact dq.top
    refine row_pc (l := x.l 8) (k := n) ?_ ?_ ?_
    · rw [e0]; simpa only [szDn, SI.den, rf.io 11 (by decide)] using dq
    · simp only [uDn, SI.den, SL.den, rf.l 8 (by decide)]; rfl
    · simp only [nInDn, SI.den, rf.i 2 (by decide)]; exact n2
def mD1 (ν : Env Gh) (x : Vals Gh) : Nat := ((ν.l 0).length - x.i 0).toNat
/-- what a round owes -/
def GD (ν : Env Gh) (ν2 : Env Gh) (m0 : Nat) (t : SumT) : Prop := match t.ex with
  | .normal => t.k = 1 ∧ (∃ a n, J1 ν (t.mt.vals (ghL []) ν2) a n) ∧ mD1 ν (t.mt.vals (ghL []) ν2) < m0 ∧ t.mt.Owed ν2 (ν.at nDn (t.mt.vals (ghL []) ν2))
  | .bad => False
  | .exit _ => t.k = 0 ∧ t.mt.Owed ν2 (ν.at nDn (t.mt.vals (ghL []) ν2))
  | .ret => False
end Go.Proofs.Ytjcphbcjnjeccaa
end

section
namespace Go.Proofs.Ytjcphbcjnjeccaa
open Go Go.Sy Go.RowKit

theorem eqG_den {ν : Env Gh} (hI : ν.I = inM) (A C : SL) : (SB.gb 0 (.app 2 (.app 1 (.var 0) (.var 0) (.lit 0) (.lit 0) (.lit 0) (.lit 0) A) (.app 1 (.var 0) (.var 0) (.lit 0) (.lit 0) (.lit 0) (.lit 0) C) (.lit 0) (.lit 0) (.lit 0) (.lit 0) .nil) (.lit 0) (.lit 0)).den ν = (A.den ν == C.den ν) := by
  simp [SB.den, SG.den, hI, inM, ghL]
theorem gl40_den {ν : Env Gh} (hI : ν.I = inM) (a b c d : SI) (l : SL) : (SL.gl 0 (.app 40 (.var 0) (.var 0) a b c d l) (.lit 0) (.lit 0)).den ν = slotsG (l.den ν) (a.den ν) (b.den ν) (c.den ν) (d.den ν) 18446744073709551616 2 1 := by
  simp [SL.den, SG.den, hI, inM, xga, ghL]
theorem getD_take_drop (l : List Int) (o n j : Nat) (h : j < n) : ((l.drop o).take n).getD j 0 = l.getD (o + j) 0 := by
  simp only [List.getD_eq_getElem?_getD, List.getElem?_take, List.getElem?_drop]
  rw [if_pos h]
/-- what All tells of a deque's cells -/
theorem DQ.all {l : List Int} {size t : Int} {n : Nat} (h : DQ l size t n) : slotsG l 0 size (l.getD 0 0) (IntKind.i64.wrap (IntKind.u64.wrap (l.getD 1 0 - l.getD 0 0))) 18446744073709551616 2 1 = sl l size t n := by
  have := h.pow.le
  have := h.room
  rw [h.top, h.bot, many_eq h.t0 h.t1 (by omega) (by omega)]
section
variable {ν : Env Gh} {x y : Vals Gh} {t : Int} {n : Nat}
theorem J1.last (J : J1 ν x t (n + 1)) : (x.l 8).getD (2 + bitsDen 0 .u64 (IntKind.u64.wrap ((x.l 8).getD 1 0 - 1)) (ν.i 11 - 1)).toNat 0 = (x.l 9).getD (x.i 1 + (x.i 2 - 1)).toNat 0 := by
  have h0 := J.o0
  have e : IntKind.u64.wrap ((x.l 8).getD 1 0 - 1) = (t + n) % 18446744073709551616 := by
    rw [J.dq.bot, wu]; omega
  rw [e, J.dq.at_ (j := n) (by omega), J.same, getD_take_drop _ _ _ _ (by omega), J.n2]
  congr 1
  omega
theorem J1.first (J : J1 ν x t (n + 1)) : (x.l 8).getD (2 + bitsDen 0 .u64 ((x.l 8).getD 0 0) (ν.i 11 - 1)).toNat 0 = (x.l 9).getD (x.i 1).toNat 0 := by
  have h0 := J.dq.t0
  have h1 := J.dq.t1
  have e : (x.l 8).getD 0 0 = (t + (0 : Nat)) % 18446744073709551616 := by rw [J.dq.top]; omega
  rw [e, J.dq.at_ (j := 0) (by omega), J.same, getD_take_drop _ _ _ _ (by omega)]
  rfl
theorem J1.idle (J : J1 ν x t n) (hi : x.i 0 < (ν.l 0).length) (y0 : y.i 0 = x.i 0 + 1) (y1 : y.i 1 = x.i 1) (y2 : y.i 2 = x.i 2) (y3 : y.i 3 = x.i 3) (y4 : y.i 4 = x.i 4) (y8 : y.l 8 = x.l 8) (y9 : y.l 9 = x.l 9) : J1 ν y t n := by
  obtain ⟨dq, n2, same, i0, i1, o0, o1, in0, in1, room, cap⟩ := J
  exact ⟨by rw [y8]; exact dq, by rw [y2]; exact n2, by rw [y8, y9, y1]; exact same, by omega, by omega, by omega, by omega, by rw [y1, y9]; exact in0, by rw [y9]; omega, by omega, by omega⟩
theorem J1.popped (J : J1 ν x t (n + 1)) (hi : x.i 0 < (ν.l 0).length) (y0 : y.i 0 = x.i 0 + 1) (y1 : y.i 1 = x.i 1) (y2 : y.i 2 = x.i 2 - 1) (y3 : y.i 3 = x.i 3) (y4 : y.i 4 = x.i 4) (y8 : y.l 8 = (x.l 8).set 1 (IntKind.u64.wrap ((x.l 8).getD 1 0 - 1))) (y9 : y.l 9 = x.l 9) : J1 ν y t n := by
  obtain ⟨dq, n2, same, i0, i1, o0, o1, in0, in1, room, cap⟩ := J
  have e : IntKind.u64.wrap ((x.l 8).getD 1 0 - 1) = (t + n) % 18446744073709551616 := by rw [dq.bot, wu]; omega
  obtain ⟨d1, d2⟩ := dq.pop _ e
  refine ⟨by rw [y8]; exact d1, by omega, ?_, by omega, by omega, by omega, by omega, by rw [y1, y9]; omega, by rw [y9]; omega, by omega, by omega⟩
  rw [y8, d2, y9, y1, same, List.take_take]
  congr 1
  omega
theorem J1.popped1 (J : J1 ν x t 1) (hi : x.i 0 < (ν.l 0).length) (y0 : y.i 0 = x.i 0 + 1) (y1 : y.i 1 = x.i 1) (y2 : y.i 2 = x.i 2 - 1) (y3 : y.i 3 = x.i 3) (y4 : y.i 4 = x.i 4) (y8 : y.l 8 = ((x.l 8).set 0 (IntKind.u64.wrap ((x.l 8).getD 0 0 + 1))).set 1 ((x.l 8).getD 1 0)) (y9 : y.l 9 = x.l 9) : J1 ν y (IntKind.u64.wrap ((x.l 8).getD 0 0 + 1)) 0 := by
  obtain ⟨dq, n2, same, i0, i1, o0, o1, in0, in1, room, cap⟩ := J
  have d1 := dq.pop1 (IntKind.u64.wrap ((x.l 8).getD 0 0 + 1)) ((x.l 8).getD 1 0) (by rw [dq.top, wu]) (by rw [dq.bot]; rfl)
  refine ⟨by rw [y8]; exact d1, by omega, ?_, by omega, by omega, by omega, by omega, by rw [y1, y9]; omega, by rw [y9]; omega, by omega, by omega⟩
  simp [slotsG]
theorem J1.stolen (J : J1 ν x t (n + 1)) (hi : x.i 0 < (ν.l 0).length) (y0 : y.i 0 = x.i 0 + 1) (y1 : y.i 1 = x.i 1 + 1) (y2 : y.i 2 = x.i 2 - 1) (y3 : y.i 3 = x.i 3 - 1) (y4 : y.i 4 = x.i 4) (y8 : y.l 8 = (x.l 8).set 0 (IntKind.u64.wrap ((x.l 8).getD 0 0 + 1))) (y9 : y.l 9 = x.l 9) : J1 ν y (IntKind.u64.wrap ((x.l 8).getD 0 0 + 1)) n := by
  obtain ⟨dq, n2, same, i0, i1, o0, o1, in0, in1, room, cap⟩ := J
  obtain ⟨d1, d2⟩ := dq.steal (IntKind.u64.wrap ((x.l 8).getD 0 0 + 1)) (by rw [dq.top, wu])
  refine ⟨by rw [y8]; exact d1, by omega, ?_, by omega, by omega, by omega, by omega, by rw [y1, y9]; omega, by rw [y9]; omega, by omega, by omega⟩
  rw [y8, d2, y9, y1, same, List.drop_take, List.drop_drop]
  congr 2
  omega
theorem J1.stolenEnd (J : J1 ν x t 1) (hc : x.i 3 = 1) (hi : x.i 0 < (ν.l 0).length) (y0 : y.i 0 = x.i 0 + 1) (y1 : y.i 1 = x.i 1) (y2 : y.i 2 = x.i 2 - 1) (y3 : y.i 3 = x.i 3 - 1) (y4 : y.i 4 = x.i 4) (y8 : y.l 8 = (x.l 8).set 0 (IntKind.u64.wrap ((x.l 8).getD 0 0 + 1))) (y9 : y.l 9 = x.l 9) : J1 ν y (IntKind.u64.wrap ((x.l 8).getD 0 0 + 1)) 0 := by
  obtain ⟨dq, n2, same, i0, i1, o0, o1, in0, in1, room, cap⟩ := J
  obtain ⟨d1, d2⟩ := dq.steal (n := 0) (IntKind.u64.wrap ((x.l 8).getD 0 0 + 1)) (by rw [dq.top, wu])
  refine ⟨by rw [y8]; exact d1, by omega, ?_, by omega, by omega, by omega, by omega, by rw [y1, y9]; omega, by rw [y9]; omega, by omega, by omega⟩
  simp [slotsG]
theorem J1.pushed (J : J1 ν x t n) (v : Int) (hr : x.i 2 < ν.i 11) : DQ (((x.l 8).set 1 (IntKind.u64.wrap ((x.l 8).getD 1 0 + 1))).set (2 + bitsDen 0 .u64 ((x.l 8).getD 1 0) (ν.i 11 - 1)).toNat v) (ν.i 11) t (n + 1) ∧
    sl (((x.l 8).set 1 (IntKind.u64.wrap ((x.l 8).getD 1 0 + 1))).set (2 + bitsDen 0 .u64 ((x.l 8).getD 1 0) (ν.i 11 - 1)).toNat v) (ν.i 11) t (n + 1) = ((x.l 9).drop (x.i 1).toNat).take n ++ [v] := by
  have hn := J.n2
  obtain ⟨d1, d2⟩ := J.dq.push (by omega) (IntKind.u64.wrap ((x.l 8).getD 1 0 + 1)) v (by rw [J.dq.bot, wu]; omega) _ rfl
  exact ⟨d1, by rw [d2, J.same]⟩
theorem J1.pushedRoom (J : J1 ν x t n) (v : Int) (hr : x.i 2 < ν.i 11) (hc : x.i 2 + 1 ≤ x.i 3) (hi : x.i 0 < (ν.l 0).length) (F : FD ν) (y0 : y.i 0 = x.i 0 + 1) (y1 : y.i 1 = x.i 1) (y2 : y.i 2 = x.i 2 + 1) (y3 : y.i 3 = x.i 3) (y4 : y.i 4 = x.i 4)
    (y8 : y.l 8 = ((x.l 8).set 1 (IntKind.u64.wrap ((x.l 8).getD 1 0 + 1))).set (2 + bitsDen 0 .u64 ((x.l 8).getD 1 0) (ν.i 11 - 1)).toNat v) (y9 : y.l 9 = (x.l 9).take (x.i 1 + x.i 2).toNat ++ [v]) : J1 ν y t (n + 1) := by
  obtain ⟨d1, d2⟩ := J.pushed v hr
  obtain ⟨dq, n2, same, i0, i1, o0, o1, in0, in1, room, cap⟩ := J
  have := F.le
  have hl : ((x.l 9).take (x.i 1 + x.i 2).toNat).length = (x.i 1).toNat + n := by rw [List.length_take]; omega
  refine ⟨by rw [y8]; exact d1, by omega, ?_, by omega, by omega, by omega, by omega, by rw [y1, y9, List.length_append, hl]; simp; omega, by rw [y9, List.length_append, hl]; simp; omega, by omega, by omega⟩
  rw [y8, d2, y9, y1, List.drop_append_of_le_length (by omega), List.take_append, List.length_drop, hl]
  have e1 : List.take (n + 1) (List.drop (x.i 1).toNat (List.take (x.i 1 + x.i 2).toNat (x.l 9))) = List.take n (List.drop (x.i 1).toNat (x.l 9)) := by
    rw [List.drop_take, List.take_take]
    congr 1
    omega
  rw [e1]
  have e2 : n + 1 - ((x.i 1).toNat + n - (x.i 1).toNat) = 1 := by omega
  rw [e2]
  rfl
theorem J1.pushedGrow (J : J1 ν x t n) (v : Int) (hr : x.i 2 < ν.i 11) (hi : x.i 0 < (ν.l 0).length) (F : FD ν) (y0 : y.i 0 = x.i 0 + 1) (y1 : y.i 1 = 0) (y2 : y.i 2 = x.i 2 + 1) (y3 : y.i 3 = y.i 4)
    (y8 : y.l 8 = ((x.l 8).set 1 (IntKind.u64.wrap ((x.l 8).getD 1 0 + 1))).set (2 + bitsDen 0 .u64 ((x.l 8).getD 1 0) (ν.i 11 - 1)).toNat v) (y9 : y.l 9 = ((x.l 9).drop (x.i 1).toNat).take (x.i 2).toNat ++ [v]) (hy : ((y.l 9).length : Int) ≤ y.i 4) : J1 ν y t (n + 1) := by
  obtain ⟨d1, d2⟩ := J.pushed v hr
  obtain ⟨dq, n2, same, i0, i1, o0, o1, in0, in1, room, cap⟩ := J
  have := F.le
  have hn : (x.i 2).toNat = n := by omega
  have hl : (((x.l 9).drop (x.i 1).toNat).take n).length = n := by rw [List.length_take, List.length_drop]; omega
  rw [hn] at y9
  have hly : (y.l 9).length = n + 1 := by rw [y9, List.length_append, hl]; rfl
  refine ⟨by rw [y8]; exact d1, by omega, ?_, by omega, by omega, by omega, by omega, by rw [y1, hly]; omega, by rw [hly]; omega, by omega, by omega⟩
  rw [y8, d2, ← y9, y1, Int.toNat_zero, List.drop_zero, List.take_of_length_le (by omega)]
/-- the list with one more behind: what is read of it -/
theorem J1.roomList (J : J1 ν x t n) (v : Int) : ((x.l 9).drop (x.i 1).toNat).take n ++ [v] = (((x.l 9).take (x.i 1 + x.i 2).toNat ++ [v]).drop (x.i 1).toNat).take (x.i 2 + 1).toNat := by
  obtain ⟨dq, n2, same, i0, i1, o0, o1, in0, in1, room, cap⟩ := J
  have hl : ((x.l 9).take (x.i 1 + x.i 2).toNat).length = (x.i 1).toNat + n := by rw [List.length_take]; omega
  rw [List.drop_append_of_le_length (by omega), List.take_append, List.length_drop, hl]
  have e1 : List.take (x.i 2 + 1).toNat (List.drop (x.i 1).toNat (List.take (x.i 1 + x.i 2).toNat (x.l 9))) = List.take n (List.drop (x.i 1).toNat (x.l 9)) := by
    rw [List.drop_take, List.take_take]
    congr 1
    omega
  rw [e1, show (x.i 2 + 1).toNat - ((x.i 1).toNat + n - (x.i 1).toNat) = 1 by omega]
  rfl
theorem J1.growList (J : J1 ν x t n) (v : Int) : ((x.l 9).drop (x.i 1).toNat).take n ++ [v] = (((x.l 9).drop (x.i 1).toNat).take (x.i 2).toNat ++ [v]).take (x.i 2 + 1).toNat := by
  obtain ⟨dq, n2, same, i0, i1, o0, o1, in0, in1, room, cap⟩ := J
  rw [show (x.i 2).toNat = n by omega]
  exact (List.take_of_length_le (by rw [List.length_append, List.length_take, List.length_drop]; simp only [List.length_cons, List.length_nil]; omega)).symm
end
end Go.Proofs.Ytjcphbcjnjeccaa
end

section
namespace Go.Proofs.Ytjcphbcjnjeccaa
open Go Go.Sy Go.RowKit

attribute [local irreducible] nmAt
theorem one : (1 : Int).toNat = 1 := rfl
theorem owed1 {ν ν2 : Env Gh} {x y : Vals Gh} {t : Int} {n : Nat} {l : SL} (J : J1 ν x t n) (rf : RF nDn ν x ν2) (hl : (l.den ν2).length = (x.l 8).length) {b : List (Nat × Nat)} {i : List (Nat × SI)} {ls : List (Nat × SL)} {g : List (Nat × SG)} : (⟨b, i, ls, g, [(.len l, .nat (.add (.var 11) (.lit 2)))], [], [], []⟩ : Mt).Owed ν2 (ν.at nDn y) := by
  have rf3 : RF nDn ν y (ν.at nDn y) := RF.self rfl
  have h1 := J.dq.len
  have h2 := J.dq.pow.le
  constructor
  · intro z hz
    simp only [List.mem_cons, List.not_mem_nil, or_false] at hz
    subst hz
    simp only [SI.den, rf3.io 11 (by decide), hl]
    omega
  · simp
  · simp
  · simp
section
variable {ν ν2 : Env Gh} {x : Vals Gh} {t : Int} {n : Nat}
theorem c1_1 (hI : ν.I = inM) (F : FD ν) (rf : RF nDn ν x ν2) (hi : x.i 0 < (ν.l 0).length) (J : J1 ν x t n) : ∀ t ∈ s1_1, pcDen ν2 t.pc → GD ν ν2 (mD1 ν x) t := by
  have q0 : ν2.i (nDn + 0) = x.i 0 := rf.i 0 (by decide)
  have q1 : ν2.i (nDn + 1) = x.i 1 := rf.i 1 (by decide)
  have q2 : ν2.i (nDn + 2) = x.i 2 := rf.i 2 (by decide)
  have q3 : ν2.i (nDn + 3) = x.i 3 := rf.i 3 (by decide)
  have q4 : ν2.i (nDn + 4) = x.i 4 := rf.i 4 (by decide)
  have q8 : ν2.l (nDn + 8) = x.l 8 := rf.l 8 (by decide)
  have q9 : ν2.l (nDn + 9) = x.l 9 := rf.l 9 (by decide)
  have q11 : ν2.i 11 = ν.i 11 := rf.io 11 (by decide)
  have ql : ν2.l 0 = ν.l 0 := rf.lo 0 (by decide)
  have hI2 : ν2.I = inM := rf.I.trans hI
  intro t ht hpc
  simp only [s1_1, List.mem_cons, List.not_mem_nil, or_false] at ht
  rcases ht with rfl
  · refine ⟨rfl, ⟨_, _, J.idle hi (by simp only [Mt.vals, lkp_cons, lkp_nil, Nat.reduceEqDiff, reduceIte, SI.den, SL.den, q0, q1, q2, q3, q4, q8, q9, q11, ql, Int.toNat_zero, one]) (by simp only [Mt.vals, lkp_cons, lkp_nil, Nat.reduceEqDiff, reduceIte, SI.den, SL.den, q0, q1, q2, q3, q4, q8, q9, q11, ql, Int.toNat_zero, one]) (by simp only [Mt.vals, lkp_cons, lkp_nil, Nat.reduceEqDiff, reduceIte, SI.den, SL.den, q0, q1, q2, q3, q4, q8, q9, q11, ql, Int.toNat_zero, one]) (by simp only [Mt.vals, lkp_cons, lkp_nil, Nat.reduceEqDiff, reduceIte, SI.den, SL.den, q0, q1, q2, q3, q4, q8, q9, q11, ql, Int.toNat_zero, one]) (by simp only [Mt.vals, lkp_cons, lkp_nil, Nat.reduceEqDiff, reduceIte, SI.den, SL.den, q0, q1, q2, q3, q4, q8, q9, q11, ql, Int.toNat_zero, one]) (by simp only [Mt.vals, lkp_cons, lkp_nil, Nat.reduceEqDiff, reduceIte, SI.den, SL.den, q0, q1, q2, q3, q4, q8, q9, q11, ql, Int.toNat_zero, one]) (by simp only [Mt.vals, lkp_cons, lkp_nil, Nat.reduceEqDiff, reduceIte, SI.den, SL.den, q0, q1, q2, q3, q4, q8, q9, q11, ql, Int.toNat_zero, one])⟩, ?_, owed1 J rf (by simp only [SL.den, q8, List.length_set])⟩
    show ((ν.l 0).length - Vals.i (Mt.vals _ _ _) 0).toNat < ((ν.l 0).length - x.i 0).toNat
    simp only [Mt.vals, lkp_cons, lkp_nil, Nat.reduceEqDiff, reduceIte, SI.den, SL.den, q0, q1, q2, q3, q4, q8, q9, q11, ql, Int.toNat_zero, one]
    omega

theorem c1_4 (hI : ν.I = inM) (F : FD ν) (rf : RF nDn ν x ν2) (hi : x.i 0 < (ν.l 0).length) (J : J1 ν x t n) : ∀ t ∈ s1_4, pcDen ν2 t.pc → GD ν ν2 (mD1 ν x) t := by
  have q0 : ν2.i (nDn + 0) = x.i 0 := rf.i 0 (by decide)
  have q1 : ν2.i (nDn + 1) = x.i 1 := rf.i 1 (by decide)
  have q2 : ν2.i (nDn + 2) = x.i 2 := rf.i 2 (by decide)
  have q3 : ν2.i (nDn + 3) = x.i 3 := rf.i 3 (by decide)
  have q4 : ν2.i (nDn + 4) = x.i 4 := rf.i 4 (by decide)
  have q8 : ν2.l (nDn + 8) = x.l 8 := rf.l 8 (by decide)
  have q9 : ν2.l (nDn + 9) = x.l 9 := rf.l 9 (by decide)
  have q11 : ν2.i 11 = ν.i 11 := rf.io 11 (by decide)
  have ql : ν2.l 0 = ν.l 0 := rf.lo 0 (by decide)
  have hI2 : ν2.I = inM := rf.I.trans hI
  intro t ht hpc
  simp only [s1_4, List.mem_cons, List.not_mem_nil, or_false] at ht
  rcases ht with rfl
  · refine ⟨rfl, ⟨_, _, J.idle hi (by simp only [Mt.vals, lkp_cons, lkp_nil, Nat.reduceEqDiff, reduceIte, SI.den, SL.den, q0, q1, q2, q3, q4, q8, q9, q11, ql, Int.toNat_zero, one]) (by simp only [Mt.vals, lkp_cons, lkp_nil, Nat.reduceEqDiff, reduceIte, SI.den, SL.den, q0, q1, q2, q3, q4, q8, q9, q11, ql, Int.toNat_zero, one]) (by simp only [Mt.vals, lkp_cons, lkp_nil, Nat.reduceEqDiff, reduceIte, SI.den, SL.den, q0, q1, q2, q3, q4, q8, q9, q11, ql, Int.toNat_zero, one]) (by simp only [Mt.vals, lkp_cons, lkp_nil, Nat.reduceEqDiff, reduceIte, SI.den, SL.den, q0, q1, q2, q3, q4, q8, q9, q11, ql, Int.toNat_zero, one]) (by simp only [Mt.vals, lkp_cons, lkp_nil, Nat.reduceEqDiff, reduceIte, SI.den, SL.den, q0, q1, q2, q3, q4, q8, q9, q11, ql, Int.toNat_zero, one]) (by simp only [Mt.vals, lkp_cons, lkp_nil, Nat.reduceEqDiff, reduceIte, SI.den, SL.den, q0, q1, q2, q3, q4, q8, q9, q11, ql, Int.toNat_zero, one]) (by simp only [Mt.vals, lkp_cons, lkp_nil, Nat.reduceEqDiff, reduceIte, SI.den, SL.den, q0, q1, q2, q3, q4, q8, q9, q11, ql, Int.toNat_zero, one])⟩, ?_, owed1 J rf (by simp only [SL.den, q8, List.length_set])⟩
    show ((ν.l 0).length - Vals.i (Mt.vals _ _ _) 0).toNat < ((ν.l 0).length - x.i 0).toNat
    simp only [Mt.vals, lkp_cons, lkp_nil, Nat.reduceEqDiff, reduceIte, SI.den, SL.den, q0, q1, q2, q3, q4, q8, q9, q11, ql, Int.toNat_zero, one]
    omega

theorem c1_2 (hI : ν.I = inM) (F : FD ν) (rf : RF nDn ν x ν2) (hi : x.i 0 < (ν.l 0).length) (J : J1 ν x t 1) : ∀ t ∈ s1_2, pcDen ν2 t.pc → GD ν ν2 (mD1 ν x) t := by
  have q0 : ν2.i (nDn + 0) = x.i 0 := rf.i 0 (by decide)
  have q1 : ν2.i (nDn + 1) = x.i 1 := rf.i 1 (by decide)
  have q2 : ν2.i (nDn + 2) = x.i 2 := rf.i 2 (by decide)
  have q3 : ν2.i (nDn + 3) = x.i 3 := rf.i 3 (by decide)
  have q4 : ν2.i (nDn + 4) = x.i 4 := rf.i 4 (by decide)
  have q8 : ν2.l (nDn + 8) = x.l 8 := rf.l 8 (by decide)
  have q9 : ν2.l (nDn + 9) = x.l 9 := rf.l 9 (by decide)
  have q11 : ν2.i 11 = ν.i 11 := rf.io 11 (by decide)
  have ql : ν2.l 0 = ν.l 0 := rf.lo 0 (by decide)
  have hI2 : ν2.I = inM := rf.I.trans hI
  intro t ht hpc
  simp only [s1_2, List.mem_cons, List.not_mem_nil, or_false] at ht
  rcases ht with rfl | rfl
  · have c := pcAt hpc 3 rfl
    simp only [SB.den] at c
    simp only [SI.den, SL.den, q0, q1, q2, q8, q9, q11, Int.toNat_zero, one] at c
    rw [J.last] at c
    simp at c
  · refine ⟨rfl, ⟨_, _, J.popped1 hi (by simp only [Mt.vals, lkp_cons, lkp_nil, Nat.reduceEqDiff, reduceIte, SI.den, SL.den, q0, q1, q2, q3, q4, q8, q9, q11, ql, Int.toNat_zero, one]) (by simp only [Mt.vals, lkp_cons, lkp_nil, Nat.reduceEqDiff, reduceIte, SI.den, SL.den, q0, q1, q2, q3, q4, q8, q9, q11, ql, Int.toNat_zero, one]) (by simp only [Mt.vals, lkp_cons, lkp_nil, Nat.reduceEqDiff, reduceIte, SI.den, SL.den, q0, q1, q2, q3, q4, q8, q9, q11, ql, Int.toNat_zero, one]) (by simp only [Mt.vals, lkp_cons, lkp_nil, Nat.reduceEqDiff, reduceIte, SI.den, SL.den, q0, q1, q2, q3, q4, q8, q9, q11, ql, Int.toNat_zero, one]) (by simp only [Mt.vals, lkp_cons, lkp_nil, Nat.reduceEqDiff, reduceIte, SI.den, SL.den, q0, q1, q2, q3, q4, q8, q9, q11, ql, Int.toNat_zero, one]) (by simp only [Mt.vals, lkp_cons, lkp_nil, Nat.reduceEqDiff, reduceIte, SI.den, SL.den, q0, q1, q2, q3, q4, q8, q9, q11, ql, Int.toNat_zero, one]) (by simp only [Mt.vals, lkp_cons, lkp_nil, Nat.reduceEqDiff, reduceIte, SI.den, SL.den, q0, q1, q2, q3, q4, q8, q9, q11, ql, Int.toNat_zero, one])⟩, ?_, owed1 J rf (by simp only [SL.den, q8, List.length_set])⟩
    show ((ν.l 0).length - Vals.i (Mt.vals _ _ _) 0).toNat < ((ν.l 0).length - x.i 0).toNat
    simp only [Mt.vals, lkp_cons, lkp_nil, Nat.reduceEqDiff, reduceIte, SI.den, SL.den, q0, q1, q2, q3, q4, q8, q9, q11, ql, Int.toNat_zero, one]
    omega

theorem c1_3 (hI : ν.I = inM) (F : FD ν) (rf : RF nDn ν x ν2) (hi : x.i 0 < (ν.l 0).length) (J : J1 ν x t (n + 1)) : ∀ t ∈ s1_3, pcDen ν2 t.pc → GD ν ν2 (mD1 ν x) t := by
  have q0 : ν2.i (nDn + 0) = x.i 0 := rf.i 0 (by decide)
  have q1 : ν2.i (nDn + 1) = x.i 1 := rf.i 1 (by decide)
  have q2 : ν2.i (nDn + 2) = x.i 2 := rf.i 2 (by decide)
  have q3 : ν2.i (nDn + 3) = x.i 3 := rf.i 3 (by decide)
  have q4 : ν2.i (nDn + 4) = x.i 4 := rf.i 4 (by decide)
  have q8 : ν2.l (nDn + 8) = x.l 8 := rf.l 8 (by decide)
  have q9 : ν2.l (nDn + 9) = x.l 9 := rf.l 9 (by decide)
  have q11 : ν2.i 11 = ν.i 11 := rf.io 11 (by decide)
  have ql : ν2.l 0 = ν.l 0 := rf.lo 0 (by decide)
  have hI2 : ν2.I = inM := rf.I.trans hI
  intro t ht hpc
  simp only [s1_3, List.mem_cons, List.not_mem_nil, or_false] at ht
  rcases ht with rfl | rfl | rfl | rfl
  · have c := pcAt hpc 2 rfl
    simp only [SB.den] at c
    simp only [SI.den, SL.den, q0, q1, q2, q8, q9, q11, Int.toNat_zero, one] at c
    rw [J.last] at c
    simp at c
  · have c := pcAt hpc 3 rfl
    obtain ⟨d, e⟩ := J.dq.pop (IntKind.u64.wrap ((x.l 8).getD 1 0 - 1)) (by rw [J.dq.bot, wu]; omega)
    have hn := J.n2
    simp only [SB.den] at c
    simp only [SI.den, gl40_den hI2] at c
    simp only [SI.den, SL.den, q0, q1, q2, q3, q8, q9, q11, ql, Int.toNat_zero, one] at c
    rw [d.all, slotsG_length] at c
    simp only [beq_eq_false_iff_ne] at c
    omega
  · refine ⟨rfl, ⟨_, _, J.popped hi (by simp only [Mt.vals, lkp_cons, lkp_nil, Nat.reduceEqDiff, reduceIte, SI.den, SL.den, q0, q1, q2, q3, q4, q8, q9, q11, ql, Int.toNat_zero, one]) (by simp only [Mt.vals, lkp_cons, lkp_nil, Nat.reduceEqDiff, reduceIte, SI.den, SL.den, q0, q1, q2, q3, q4, q8, q9, q11, ql, Int.toNat_zero, one]) (by simp only [Mt.vals, lkp_cons, lkp_nil, Nat.reduceEqDiff, reduceIte, SI.den, SL.den, q0, q1, q2, q3, q4, q8, q9, q11, ql, Int.toNat_zero, one]) (by simp only [Mt.vals, lkp_cons, lkp_nil, Nat.reduceEqDiff, reduceIte, SI.den, SL.den, q0, q1, q2, q3, q4, q8, q9, q11, ql, Int.toNat_zero, one]) (by simp only [Mt.vals, lkp_cons, lkp_nil, Nat.reduceEqDiff, reduceIte, SI.den, SL.den, q0, q1, q2, q3, q4, q8, q9, q11, ql, Int.toNat_zero, one]) (by simp only [Mt.vals, lkp_cons, lkp_nil, Nat.reduceEqDiff, reduceIte, SI.den, SL.den, q0, q1, q2, q3, q4, q8, q9, q11, ql, Int.toNat_zero, one]) (by simp only [Mt.vals, lkp_cons, lkp_nil, Nat.reduceEqDiff, reduceIte, SI.den, SL.den, q0, q1, q2, q3, q4, q8, q9, q11, ql, Int.toNat_zero, one])⟩, ?_, owed1 J rf (by simp only [SL.den, q8, List.length_set])⟩
    show ((ν.l 0).length - Vals.i (Mt.vals _ _ _) 0).toNat < ((ν.l 0).length - x.i 0).toNat
    simp only [Mt.vals, lkp_cons, lkp_nil, Nat.reduceEqDiff, reduceIte, SI.den, SL.den, q0, q1, q2, q3, q4, q8, q9, q11, ql, Int.toNat_zero, one]
    omega
  · have c := pcAt hpc 3 rfl
    obtain ⟨d, e⟩ := J.dq.pop (IntKind.u64.wrap ((x.l 8).getD 1 0 - 1)) (by rw [J.dq.bot, wu]; omega)
    have hn := J.n2
    rw [eqG_den hI2] at c
    simp only [gl40_den hI2] at c
    simp only [SI.den, SL.den, q0, q1, q2, q3, q8, q9, q11, ql, Int.toNat_zero, one] at c
    rw [d.all, e] at c
    exfalso
    rw [beq_eq_false_iff_ne] at c
    exact c (by rw [J.same, List.take_take]; congr 1; omega)

theorem c1_5 (hI : ν.I = inM) (F : FD ν) (rf : RF nDn ν x ν2) (hi : x.i 0 < (ν.l 0).length) (J : J1 ν x t 1) (hc : x.i 3 = 1) : ∀ t ∈ s1_5, pcDen ν2 t.pc → GD ν ν2 (mD1 ν x) t := by
  have q0 : ν2.i (nDn + 0) = x.i 0 := rf.i 0 (by decide)
  have q1 : ν2.i (nDn + 1) = x.i 1 := rf.i 1 (by decide)
  have q2 : ν2.i (nDn + 2) = x.i 2 := rf.i 2 (by decide)
  have q3 : ν2.i (nDn + 3) = x.i 3 := rf.i 3 (by decide)
  have q4 : ν2.i (nDn + 4) = x.i 4 := rf.i 4 (by decide)
  have q8 : ν2.l (nDn + 8) = x.l 8 := rf.l 8 (by decide)
  have q9 : ν2.l (nDn + 9) = x.l 9 := rf.l 9 (by decide)
  have q11 : ν2.i 11 = ν.i 11 := rf.io 11 (by decide)
  have ql : ν2.l 0 = ν.l 0 := rf.lo 0 (by decide)
  have hI2 : ν2.I = inM := rf.I.trans hI
  intro t ht hpc
  simp only [s1_5, List.mem_cons, List.not_mem_nil, or_false] at ht
  rcases ht with rfl | rfl
  · have c := pcAt hpc 2 rfl
    simp only [SB.den] at c
    simp only [SI.den, SL.den, q0, q1, q2, q8, q9, q11, Int.toNat_zero, one] at c
    rw [J.first] at c
    simp at c
  · refine ⟨rfl, ⟨_, _, J.stolenEnd hc hi (by simp only [Mt.vals, lkp_cons, lkp_nil, Nat.reduceEqDiff, reduceIte, SI.den, SL.den, q0, q1, q2, q3, q4, q8, q9, q11, ql, Int.toNat_zero, one]) (by simp only [Mt.vals, lkp_cons, lkp_nil, Nat.reduceEqDiff, reduceIte, SI.den, SL.den, q0, q1, q2, q3, q4, q8, q9, q11, ql, Int.toNat_zero, one]) (by simp only [Mt.vals, lkp_cons, lkp_nil, Nat.reduceEqDiff, reduceIte, SI.den, SL.den, q0, q1, q2, q3, q4, q8, q9, q11, ql, Int.toNat_zero, one]) (by simp only [Mt.vals, lkp_cons, lkp_nil, Nat.reduceEqDiff, reduceIte, SI.den, SL.den, q0, q1, q2, q3, q4, q8, q9, q11, ql, Int.toNat_zero, one]) (by simp only [Mt.vals, lkp_cons, lkp_nil, Nat.reduceEqDiff, reduceIte, SI.den, SL.den, q0, q1, q2, q3, q4, q8, q9, q11, ql, Int.toNat_zero, one]) (by simp only [Mt.vals, lkp_cons, lkp_nil, Nat.reduceEqDiff, reduceIte, SI.den, SL.den, q0, q1, q2, q3, q4, q8, q9, q11, ql, Int.toNat_zero, one]) (by simp only [Mt.vals, lkp_cons, lkp_nil, Nat.reduceEqDiff, reduceIte, SI.den, SL.den, q0, q1, q2, q3, q4, q8, q9, q11, ql, Int.toNat_zero, one])⟩, ?_, owed1 J rf (by simp only [SL.den, q8, List.length_set])⟩
    show ((ν.l 0).length - Vals.i (Mt.vals _ _ _) 0).toNat < ((ν.l 0).length - x.i 0).toNat
    simp only [Mt.vals, lkp_cons, lkp_nil, Nat.reduceEqDiff, reduceIte, SI.den, SL.den, q0, q1, q2, q3, q4, q8, q9, q11, ql, Int.toNat_zero, one]
    omega

theorem c1_6 (hI : ν.I = inM) (F : FD ν) (rf : RF nDn ν x ν2) (hi : x.i 0 < (ν.l 0).length) (J : J1 ν x t (0 + 1)) : ∀ t ∈ s1_6, pcDen ν2 t.pc → GD ν ν2 (mD1 ν x) t := by
  have q0 : ν2.i (nDn + 0) = x.i 0 := rf.i 0 (by decide)
  have q1 : ν2.i (nDn + 1) = x.i 1 := rf.i 1 (by decide)
  have q2 : ν2.i (nDn + 2) = x.i 2 := rf.i 2 (by decide)
  have q3 : ν2.i (nDn + 3) = x.i 3 := rf.i 3 (by decide)
  have q4 : ν2.i (nDn + 4) = x.i 4 := rf.i 4 (by decide)
  have q8 : ν2.l (nDn + 8) = x.l 8 := rf.l 8 (by decide)
  have q9 : ν2.l (nDn + 9) = x.l 9 := rf.l 9 (by decide)
  have q11 : ν2.i 11 = ν.i 11 := rf.io 11 (by decide)
  have ql : ν2.l 0 = ν.l 0 := rf.lo 0 (by decide)
  have hI2 : ν2.I = inM := rf.I.trans hI
  intro t ht hpc
  simp only [s1_6, List.mem_cons, List.not_mem_nil, or_false] at ht
  rcases ht with rfl | rfl
  · have c := pcAt hpc 2 rfl
    simp only [SB.den] at c
    simp only [SI.den, SL.den, q0, q1, q2, q8, q9, q11, Int.toNat_zero, one] at c
    rw [J.first] at c
    simp at c
  · refine ⟨rfl, ⟨_, _, J.stolen hi (by simp only [Mt.vals, lkp_cons, lkp_nil, Nat.reduceEqDiff, reduceIte, SI.den, SL.den, q0, q1, q2, q3, q4, q8, q9, q11, ql, Int.toNat_zero, one]) (by simp only [Mt.vals, lkp_cons, lkp_nil, Nat.reduceEqDiff, reduceIte, SI.den, SL.den, q0, q1, q2, q3, q4, q8, q9, q11, ql, Int.toNat_zero, one]) (by simp only [Mt.vals, lkp_cons, lkp_nil, Nat.reduceEqDiff, reduceIte, SI.den, SL.den, q0, q1, q2, q3, q4, q8, q9, q11, ql, Int.toNat_zero, one]) (by simp only [Mt.vals, lkp_cons, lkp_nil, Nat.reduceEqDiff, reduceIte, SI.den, SL.den, q0, q1, q2, q3, q4, q8, q9, q11, ql, Int.toNat_zero, one]) (by simp only [Mt.vals, lkp_cons, lkp_nil, Nat.reduceEqDiff, reduceIte, SI.den, SL.den, q0, q1, q2, q3, q4, q8, q9, q11, ql, Int.toNat_zero, one]) (by simp only [Mt.vals, lkp_cons, lkp_nil, Nat.reduceEqDiff, reduceIte, SI.den, SL.den, q0, q1, q2, q3, q4, q8, q9, q11, ql, Int.toNat_zero, one]) (by simp only [Mt.vals, lkp_cons, lkp_nil, Nat.reduceEqDiff, reduceIte, SI.den, SL.den, q0, q1, q2, q3, q4, q8, q9, q11, ql, Int.toNat_zero, one])⟩, ?_, owed1 J rf (by simp only [SL.den, q8, List.length_set])⟩
    show ((ν.l 0).length - Vals.i (Mt.vals _ _ _) 0).toNat < ((ν.l 0).length - x.i 0).toNat
    simp only [Mt.vals, lkp_cons, lkp_nil, Nat.reduceEqDiff, reduceIte, SI.den, SL.den, q0, q1, q2, q3, q4, q8, q9, q11, ql, Int.toNat_zero, one]
    omega

theorem c1_7 (hI : ν.I = inM) (F : FD ν) (rf : RF nDn ν x ν2) (hi : x.i 0 < (ν.l 0).length) (J : J1 ν x t (n + 1)) : ∀ t ∈ s1_7, pcDen ν2 t.pc → GD ν ν2 (mD1 ν x) t := by
  have q0 : ν2.i (nDn + 0) = x.i 0 := rf.i 0 (by decide)
  have q1 : ν2.i (nDn + 1) = x.i 1 := rf.i 1 (by decide)
  have q2 : ν2.i (nDn + 2) = x.i 2 := rf.i 2 (by decide)
  have q3 : ν2.i (nDn + 3) = x.i 3 := rf.i 3 (by decide)
  have q4 : ν2.i (nDn + 4) = x.i 4 := rf.i 4 (by decide)
  have q8 : ν2.l (nDn + 8) = x.l 8 := rf.l 8 (by decide)
  have q9 : ν2.l (nDn + 9) = x.l 9 := rf.l 9 (by decide)
  have q11 : ν2.i 11 = ν.i 11 := rf.io 11 (by decide)
  have ql : ν2.l 0 = ν.l 0 := rf.lo 0 (by decide)
  have hI2 : ν2.I = inM := rf.I.trans hI
  intro t ht hpc
  simp only [s1_7, List.mem_cons, List.not_mem_nil, or_false] at ht
  rcases ht with rfl | rfl | rfl | rfl
  · have c := pcAt hpc 2 rfl
    simp only [SB.den] at c
    simp only [SI.den, SL.den, q0, q1, q2, q8, q9, q11, Int.toNat_zero, one] at c
    rw [J.first] at c
    simp at c
  · have c := pcAt hpc 3 rfl
    obtain ⟨d, e⟩ := J.dq.steal (IntKind.u64.wrap ((x.l 8).getD 0 0 + 1)) (by rw [J.dq.top, wu])
    have hn := J.n2
    have ho := J.o0
    simp only [SB.den] at c
    simp only [SI.den, gl40_den hI2] at c
    simp only [SI.den, SL.den, q0, q1, q2, q3, q8, q9, q11, ql, Int.toNat_zero, one] at c
    rw [d.all, slotsG_length] at c
    simp only [beq_eq_false_iff_ne] at c
    omega
  · refine ⟨rfl, ⟨_, _, J.stolen hi (by simp only [Mt.vals, lkp_cons, lkp_nil, Nat.reduceEqDiff, reduceIte, SI.den, SL.den, q0, q1, q2, q3, q4, q8, q9, q11, ql, Int.toNat_zero, one]) (by simp only [Mt.vals, lkp_cons, lkp_nil, Nat.reduceEqDiff, reduceIte, SI.den, SL.den, q0, q1, q2, q3, q4, q8, q9, q11, ql, Int.toNat_zero, one]) (by simp only [Mt.vals, lkp_cons, lkp_nil, Nat.reduceEqDiff, reduceIte, SI.den, SL.den, q0, q1, q2, q3, q4, q8, q9, q11, ql, Int.toNat_zero, one]) (by simp only [Mt.vals, lkp_cons, lkp_nil, Nat.reduceEqDiff, reduceIte, SI.den, SL.den, q0, q1, q2, q3, q4, q8, q9, q11, ql, Int.toNat_zero, one]) (by simp only [Mt.vals, lkp_cons, lkp_nil, Nat.reduceEqDiff, reduceIte, SI.den, SL.den, q0, q1, q2, q3, q4, q8, q9, q11, ql, Int.toNat_zero, one]) (by simp only [Mt.vals, lkp_cons, lkp_nil, Nat.reduceEqDiff, reduceIte, SI.den, SL.den, q0, q1, q2, q3, q4, q8, q9, q11, ql, Int.toNat_zero, one]) (by simp only [Mt.vals, lkp_cons, lkp_nil, Nat.reduceEqDiff, reduceIte, SI.den, SL.den, q0, q1, q2, q3, q4, q8, q9, q11, ql, Int.toNat_zero, one])⟩, ?_, owed1 J rf (by simp only [SL.den, q8, List.length_set])⟩
    show ((ν.l 0).length - Vals.i (Mt.vals _ _ _) 0).toNat < ((ν.l 0).length - x.i 0).toNat
    simp only [Mt.vals, lkp_cons, lkp_nil, Nat.reduceEqDiff, reduceIte, SI.den, SL.den, q0, q1, q2, q3, q4, q8, q9, q11, ql, Int.toNat_zero, one]
    omega
  · have c := pcAt hpc 3 rfl
    obtain ⟨d, e⟩ := J.dq.steal (IntKind.u64.wrap ((x.l 8).getD 0 0 + 1)) (by rw [J.dq.top, wu])
    have hn := J.n2
    have ho := J.o0
    rw [eqG_den hI2] at c
    simp only [gl40_den hI2] at c
    simp only [SI.den, SL.den, q0, q1, q2, q3, q8, q9, q11, ql, Int.toNat_zero, one] at c
    rw [d.all, e] at c
    exfalso
    rw [beq_eq_false_iff_ne] at c
    exact c (by rw [J.same, List.drop_take, List.drop_drop]; congr 2 <;> omega)

theorem c1_8 (hI : ν.I = inM) (F : FD ν) (rf : RF nDn ν x ν2) (hi : x.i 0 < (ν.l 0).length) (J : J1 ν x t n) : ∀ t ∈ s1_8, pcDen ν2 t.pc → GD ν ν2 (mD1 ν x) t := by
  have q0 : ν2.i (nDn + 0) = x.i 0 := rf.i 0 (by decide)
  have q1 : ν2.i (nDn + 1) = x.i 1 := rf.i 1 (by decide)
  have q2 : ν2.i (nDn + 2) = x.i 2 := rf.i 2 (by decide)
  have q3 : ν2.i (nDn + 3) = x.i 3 := rf.i 3 (by decide)
  have q4 : ν2.i (nDn + 4) = x.i 4 := rf.i 4 (by decide)
  have q8 : ν2.l (nDn + 8) = x.l 8 := rf.l 8 (by decide)
  have q9 : ν2.l (nDn + 9) = x.l 9 := rf.l 9 (by decide)
  have q11 : ν2.i 11 = ν.i 11 := rf.io 11 (by decide)
  have ql : ν2.l 0 = ν.l 0 := rf.lo 0 (by decide)
  have hI2 : ν2.I = inM := rf.I.trans hI
  intro t ht hpc
  simp only [s1_8, List.mem_cons, List.not_mem_nil, or_false] at ht
  rcases ht with rfl | rfl | rfl
  · have c := pcAt hpc 3 rfl
    have d := J.dq
    have e := J.same
    have hn := J.n2
    simp only [SB.den] at c
    simp only [SI.den, gl40_den hI2] at c
    simp only [SI.den, SL.den, q0, q1, q2, q3, q8, q9, q11, ql, Int.toNat_zero, one] at c
    rw [d.all, slotsG_length] at c
    simp only [beq_eq_false_iff_ne] at c
    omega
  · refine ⟨rfl, ⟨_, _, J.idle hi (by simp only [Mt.vals, lkp_cons, lkp_nil, Nat.reduceEqDiff, reduceIte, SI.den, SL.den, q0, q1, q2, q3, q4, q8, q9, q11, ql, Int.toNat_zero, one]) (by simp only [Mt.vals, lkp_cons, lkp_nil, Nat.reduceEqDiff, reduceIte, SI.den, SL.den, q0, q1, q2, q3, q4, q8, q9, q11, ql, Int.toNat_zero, one]) (by simp only [Mt.vals, lkp_cons, lkp_nil, Nat.reduceEqDiff, reduceIte, SI.den, SL.den, q0, q1, q2, q3, q4, q8, q9, q11, ql, Int.toNat_zero, one]) (by simp only [Mt.vals, lkp_cons, lkp_nil, Nat.reduceEqDiff, reduceIte, SI.den, SL.den, q0, q1, q2, q3, q4, q8, q9, q11, ql, Int.toNat_zero, one]) (by simp only [Mt.vals, lkp_cons, lkp_nil, Nat.reduceEqDiff, reduceIte, SI.den, SL.den, q0, q1, q2, q3, q4, q8, q9, q11, ql, Int.toNat_zero, one]) (by simp only [Mt.vals, lkp_cons, lkp_nil, Nat.reduceEqDiff, reduceIte, SI.den, SL.den, q0, q1, q2, q3, q4, q8, q9, q11, ql, Int.toNat_zero, one]) (by simp only [Mt.vals, lkp_cons, lkp_nil, Nat.reduceEqDiff, reduceIte, SI.den, SL.den, q0, q1, q2, q3, q4, q8, q9, q11, ql, Int.toNat_zero, one])⟩, ?_, owed1 J rf (by simp only [SL.den, q8, List.length_set])⟩
    show ((ν.l 0).length - Vals.i (Mt.vals _ _ _) 0).toNat < ((ν.l 0).length - x.i 0).toNat
    simp only [Mt.vals, lkp_cons, lkp_nil, Nat.reduceEqDiff, reduceIte, SI.den, SL.den, q0, q1, q2, q3, q4, q8, q9, q11, ql, Int.toNat_zero, one]
    omega
  · have c := pcAt hpc 3 rfl
    have d := J.dq
    have e := J.same
    have hn := J.n2
    rw [eqG_den hI2] at c
    simp only [gl40_den hI2] at c
    simp only [SI.den, SL.den, q0, q1, q2, q3, q8, q9, q11, ql, Int.toNat_zero, one] at c
    rw [d.all, e] at c
    exfalso
    rw [beq_eq_false_iff_ne] at c
    exact c (by congr 1; omega)

theorem c1_11 (hI : ν.I = inM) (F : FD ν) (rf : RF nDn ν x ν2) (hi : x.i 0 < (ν.l 0).length) (J : J1 ν x t n) : ∀ t ∈ s1_11, pcDen ν2 t.pc → GD ν ν2 (mD1 ν x) t := by
  have q0 : ν2.i (nDn + 0) = x.i 0 := rf.i 0 (by decide)
  have q1 : ν2.i (nDn + 1) = x.i 1 := rf.i 1 (by decide)
  have q2 : ν2.i (nDn + 2) = x.i 2 := rf.i 2 (by decide)
  have q3 : ν2.i (nDn + 3) = x.i 3 := rf.i 3 (by decide)
  have q4 : ν2.i (nDn + 4) = x.i 4 := rf.i 4 (by decide)
  have q8 : ν2.l (nDn + 8) = x.l 8 := rf.l 8 (by decide)
  have q9 : ν2.l (nDn + 9) = x.l 9 := rf.l 9 (by decide)
  have q11 : ν2.i 11 = ν.i 11 := rf.io 11 (by decide)
  have ql : ν2.l 0 = ν.l 0 := rf.lo 0 (by decide)
  have hI2 : ν2.I = inM := rf.I.trans hI
  intro t ht hpc
  simp only [s1_11, List.mem_cons, List.not_mem_nil, or_false] at ht
  rcases ht with rfl | rfl | rfl
  · have c := pcAt hpc 3 rfl
    have d := J.dq
    have e := J.same
    have hn := J.n2
    simp only [SB.den] at c
    simp only [SI.den, gl40_den hI2] at c
    simp only [SI.den, SL.den, q0, q1, q2, q3, q8, q9, q11, ql, Int.toNat_zero, one] at c
    rw [d.all, slotsG_length] at c
    simp only [beq_eq_false_iff_ne] at c
    omega
  · refine ⟨rfl, ⟨_, _, J.idle hi (by simp only [Mt.vals, lkp_cons, lkp_nil, Nat.reduceEqDiff, reduceIte, SI.den, SL.den, q0, q1, q2, q3, q4, q8, q9, q11, ql, Int.toNat_zero, one]) (by simp only [Mt.vals, lkp_cons, lkp_nil, Nat.reduceEqDiff, reduceIte, SI.den, SL.den, q0, q1, q2, q3, q4, q8, q9, q11, ql, Int.toNat_zero, one]) (by simp only [Mt.vals, lkp_cons, lkp_nil, Nat.reduceEqDiff, reduceIte, SI.den, SL.den, q0, q1, q2, q3, q4, q8, q9, q11, ql, Int.toNat_zero, one]) (by simp only [Mt.vals, lkp_cons, lkp_nil, Nat.reduceEqDiff, reduceIte, SI.den, SL.den, q0, q1, q2, q3, q4, q8, q9, q11, ql, Int.toNat_zero, one]) (by simp only [Mt.vals, lkp_cons, lkp_nil, Nat.reduceEqDiff, reduceIte, SI.den, SL.den, q0, q1, q2, q3, q4, q8, q9, q11, ql, Int.toNat_zero, one]) (by simp only [Mt.vals, lkp_cons, lkp_nil, Nat.reduceEqDiff, reduceIte, SI.den, SL.den, q0, q1, q2, q3, q4, q8, q9, q11, ql, Int.toNat_zero, one]) (by simp only [Mt.vals, lkp_cons, lkp_nil, Nat.reduceEqDiff, reduceIte, SI.den, SL.den, q0, q1, q2, q3, q4, q8, q9, q11, ql, Int.toNat_zero, one])⟩, ?_, owed1 J rf (by simp only [SL.den, q8, List.length_set])⟩
    show ((ν.l 0).length - Vals.i (Mt.vals _ _ _) 0).toNat < ((ν.l 0).length - x.i 0).toNat
    simp only [Mt.vals, lkp_cons, lkp_nil, Nat.reduceEqDiff, reduceIte, SI.den, SL.den, q0, q1, q2, q3, q4, q8, q9, q11, ql, Int.toNat_zero, one]
    omega
  · have c := pcAt hpc 3 rfl
    have d := J.dq
    have e := J.same
    have hn := J.n2
    rw [eqG_den hI2] at c
    simp only [gl40_den hI2] at c
    simp only [SI.den, SL.den, q0, q1, q2, q3, q8, q9, q11, ql, Int.toNat_zero, one] at c
    rw [d.all, e] at c
    exfalso
    rw [beq_eq_false_iff_ne] at c
    exact c (by congr 1; omega)

theorem c1_9 (hI : ν.I = inM) (F : FD ν) (rf : RF nDn ν x ν2) (hi : x.i 0 < (ν.l 0).length) (J : J1 ν x t n) (hr : x.i 2 < ν.i 11) (hc : x.i 2 + 1 ≤ x.i 3) : ∀ t ∈ s1_9, pcDen ν2 t.pc → GD ν ν2 (mD1 ν x) t := by
  have q0 : ν2.i (nDn + 0) = x.i 0 := rf.i 0 (by decide)
  have q1 : ν2.i (nDn + 1) = x.i 1 := rf.i 1 (by decide)
  have q2 : ν2.i (nDn + 2) = x.i 2 := rf.i 2 (by decide)
  have q3 : ν2.i (nDn + 3) = x.i 3 := rf.i 3 (by decide)
  have q4 : ν2.i (nDn + 4) = x.i 4 := rf.i 4 (by decide)
  have q8 : ν2.l (nDn + 8) = x.l 8 := rf.l 8 (by decide)
  have q9 : ν2.l (nDn + 9) = x.l 9 := rf.l 9 (by decide)
  have q11 : ν2.i 11 = ν.i 11 := rf.io 11 (by decide)
  have ql : ν2.l 0 = ν.l 0 := rf.lo 0 (by decide)
  have hI2 : ν2.I = inM := rf.I.trans hI
  intro t ht hpc
  simp only [s1_9, List.mem_cons, List.not_mem_nil, or_false] at ht
  rcases ht with rfl | rfl | rfl
  · have c := pcAt hpc 3 rfl
    obtain ⟨d, e⟩ := J.pushed (IntKind.u64.wrap ((ν.l 0).getD (x.i 0).toNat 0 * 7)) hr
    have hn := J.n2
    have ho := J.o0
    have hin := J.in0
    simp only [SB.den] at c
    simp only [SI.den, gl40_den hI2] at c
    simp only [SI.den, SL.den, q0, q1, q2, q3, q8, q9, q11, ql, Int.toNat_zero, one] at c
    rw [d.all, slotsG_length] at c
    simp only [beq_eq_false_iff_ne] at c
    omega
  · refine ⟨rfl, ⟨_, _, J.pushedRoom (IntKind.u64.wrap ((ν.l 0).getD (x.i 0).toNat 0 * 7)) hr hc hi F (by simp only [Mt.vals, lkp_cons, lkp_nil, Nat.reduceEqDiff, reduceIte, SI.den, SL.den, q0, q1, q2, q3, q4, q8, q9, q11, ql, Int.toNat_zero, one]) (by simp only [Mt.vals, lkp_cons, lkp_nil, Nat.reduceEqDiff, reduceIte, SI.den, SL.den, q0, q1, q2, q3, q4, q8, q9, q11, ql, Int.toNat_zero, one]) (by simp only [Mt.vals, lkp_cons, lkp_nil, Nat.reduceEqDiff, reduceIte, SI.den, SL.den, q0, q1, q2, q3, q4, q8, q9, q11, ql, Int.toNat_zero, one]) (by simp only [Mt.vals, lkp_cons, lkp_nil, Nat.reduceEqDiff, reduceIte, SI.den, SL.den, q0, q1, q2, q3, q4, q8, q9, q11, ql, Int.toNat_zero, one]) (by simp only [Mt.vals, lkp_cons, lkp_nil, Nat.reduceEqDiff, reduceIte, SI.den, SL.den, q0, q1, q2, q3, q4, q8, q9, q11, ql, Int.toNat_zero, one]) (by simp only [Mt.vals, lkp_cons, lkp_nil, Nat.reduceEqDiff, reduceIte, SI.den, SL.den, q0, q1, q2, q3, q4, q8, q9, q11, ql, Int.toNat_zero, one]) (by simp only [Mt.vals, lkp_cons, lkp_nil, Nat.reduceEqDiff, reduceIte, SI.den, SL.den, q0, q1, q2, q3, q4, q8, q9, q11, ql, Int.toNat_zero, one])⟩, ?_, owed1 J rf (by simp only [SL.den, q8, List.length_set])⟩
    show ((ν.l 0).length - Vals.i (Mt.vals _ _ _) 0).toNat < ((ν.l 0).length - x.i 0).toNat
    simp only [Mt.vals, lkp_cons, lkp_nil, Nat.reduceEqDiff, reduceIte, SI.den, SL.den, q0, q1, q2, q3, q4, q8, q9, q11, ql, Int.toNat_zero, one]
    omega
  · have c := pcAt hpc 3 rfl
    obtain ⟨d, e⟩ := J.pushed (IntKind.u64.wrap ((ν.l 0).getD (x.i 0).toNat 0 * 7)) hr
    have hn := J.n2
    have ho := J.o0
    have hin := J.in0
    rw [eqG_den hI2] at c
    simp only [gl40_den hI2] at c
    simp only [SI.den, SL.den, q0, q1, q2, q3, q8, q9, q11, ql, Int.toNat_zero, one] at c
    rw [d.all, e] at c
    exfalso
    rw [beq_eq_false_iff_ne] at c
    exact c (J.roomList _)

theorem c1_12 (hI : ν.I = inM) (F : FD ν) (rf : RF nDn ν x ν2) (hi : x.i 0 < (ν.l 0).length) (J : J1 ν x t n) (hr : x.i 2 < ν.i 11) (hc : x.i 2 + 1 ≤ x.i 3) : ∀ t ∈ s1_12, pcDen ν2 t.pc → GD ν ν2 (mD1 ν x) t := by
  have q0 : ν2.i (nDn + 0) = x.i 0 := rf.i 0 (by decide)
  have q1 : ν2.i (nDn + 1) = x.i 1 := rf.i 1 (by decide)
  have q2 : ν2.i (nDn + 2) = x.i 2 := rf.i 2 (by decide)
  have q3 : ν2.i (nDn + 3) = x.i 3 := rf.i 3 (by decide)
  have q4 : ν2.i (nDn + 4) = x.i 4 := rf.i 4 (by decide)
  have q8 : ν2.l (nDn + 8) = x.l 8 := rf.l 8 (by decide)
  have q9 : ν2.l (nDn + 9) = x.l 9 := rf.l 9 (by decide)
  have q11 : ν2.i 11 = ν.i 11 := rf.io 11 (by decide)
  have ql : ν2.l 0 = ν.l 0 := rf.lo 0 (by decide)
  have hI2 : ν2.I = inM := rf.I.trans hI
  intro t ht hpc
  simp only [s1_12, List.mem_cons, List.not_mem_nil, or_false] at ht
  rcases ht with rfl | rfl | rfl
  · have c := pcAt hpc 3 rfl
    obtain ⟨d, e⟩ := J.pushed (IntKind.u64.wrap ((ν.l 0).getD (x.i 0).toNat 0 * 7)) hr
    have hn := J.n2
    have ho := J.o0
    have hin := J.in0
    simp only [SB.den] at c
    simp only [SI.den, gl40_den hI2] at c
    simp only [SI.den, SL.den, q0, q1, q2, q3, q8, q9, q11, ql, Int.toNat_zero, one] at c
    rw [d.all, slotsG_length] at c
    simp only [beq_eq_false_iff_ne] at c
    omega
  · refine ⟨rfl, ⟨_, _, J.pushedRoom (IntKind.u64.wrap ((ν.l 0).getD (x.i 0).toNat 0 * 7)) hr hc hi F (by simp only [Mt.vals, lkp_cons, lkp_nil, Nat.reduceEqDiff, reduceIte, SI.den, SL.den, q0, q1, q2, q3, q4, q8, q9, q11, ql, Int.toNat_zero, one]) (by simp only [Mt.vals, lkp_cons, lkp_nil, Nat.reduceEqDiff, reduceIte, SI.den, SL.den, q0, q1, q2, q3, q4, q8, q9, q11, ql, Int.toNat_zero, one]) (by simp only [Mt.vals, lkp_cons, lkp_nil, Nat.reduceEqDiff, reduceIte, SI.den, SL.den, q0, q1, q2, q3, q4, q8, q9, q11, ql, Int.toNat_zero, one]) (by simp only [Mt.vals, lkp_cons, lkp_nil, Nat.reduceEqDiff, reduceIte, SI.den, SL.den, q0, q1, q2, q3, q4, q8, q9, q11, ql, Int.toNat_zero, one]) (by simp only [Mt.vals, lkp_cons, lkp_nil, Nat.reduceEqDiff, reduceIte, SI.den, SL.den, q0, q1, q2, q3, q4, q8, q9, q11, ql, Int.toNat_zero, one]) (by simp only [Mt.vals, lkp_cons, lkp_nil, Nat.reduceEqDiff, reduceIte, SI.den, SL.den, q0, q1, q2, q3, q4, q8, q9, q11, ql, Int.toNat_zero, one]) (by simp only [Mt.vals, lkp_cons, lkp_nil, Nat.reduceEqDiff, reduceIte, SI.den, SL.den, q0, q1, q2, q3, q4, q8, q9, q11, ql, Int.toNat_zero, one])⟩, ?_, owed1 J rf (by simp only [SL.den, q8, List.length_set])⟩
    show ((ν.l 0).length - Vals.i (Mt.vals _ _ _) 0).toNat < ((ν.l 0).length - x.i 0).toNat
    simp only [Mt.vals, lkp_cons, lkp_nil, Nat.reduceEqDiff, reduceIte, SI.den, SL.den, q0, q1, q2, q3, q4, q8, q9, q11, ql, Int.toNat_zero, one]
    omega
  · have c := pcAt hpc 3 rfl
    obtain ⟨d, e⟩ := J.pushed (IntKind.u64.wrap ((ν.l 0).getD (x.i 0).toNat 0 * 7)) hr
    have hn := J.n2
    have ho := J.o0
    have hin := J.in0
    rw [eqG_den hI2] at c
    simp only [gl40_den hI2] at c
    simp only [SI.den, SL.den, q0, q1, q2, q3, q8, q9, q11, ql, Int.toNat_zero, one] at c
    rw [d.all, e] at c
    exfalso
    rw [beq_eq_false_iff_ne] at c
    exact c (J.roomList _)

theorem c1_10 (hI : ν.I = inM) (F : FD ν) (rf : RF nDn ν x ν2) (hi : x.i 0 < (ν.l 0).length) (J : J1 ν x t n) (hr : x.i 2 < ν.i 11) : ∀ t ∈ s1_10, pcDen ν2 t.pc → GD ν ν2 (mD1 ν x) t := by
  have q0 : ν2.i (nDn + 0) = x.i 0 := rf.i 0 (by decide)
  have q1 : ν2.i (nDn + 1) = x.i 1 := rf.i 1 (by decide)
  have q2 : ν2.i (nDn + 2) = x.i 2 := rf.i 2 (by decide)
  have q3 : ν2.i (nDn + 3) = x.i 3 := rf.i 3 (by decide)
  have q4 : ν2.i (nDn + 4) = x.i 4 := rf.i 4 (by decide)
  have q8 : ν2.l (nDn + 8) = x.l 8 := rf.l 8 (by decide)
  have q9 : ν2.l (nDn + 9) = x.l 9 := rf.l 9 (by decide)
  have q11 : ν2.i 11 = ν.i 11 := rf.io 11 (by decide)
  have ql : ν2.l 0 = ν.l 0 := rf.lo 0 (by decide)
  have hI2 : ν2.I = inM := rf.I.trans hI
  intro t ht hpc
  simp only [s1_10, List.mem_cons, List.not_mem_nil, or_false] at ht
  rcases ht with rfl | rfl | rfl
  · have c := pcAt hpc 3 rfl
    obtain ⟨d, e⟩ := J.pushed (IntKind.u64.wrap ((ν.l 0).getD (x.i 0).toNat 0 * 7)) hr
    have hn := J.n2
    have ho := J.o0
    have hin := J.in0
    simp only [SB.den] at c
    simp only [SI.den, gl40_den hI2] at c
    simp only [SI.den, SL.den, q0, q1, q2, q3, q8, q9, q11, ql, Int.toNat_zero, one] at c
    rw [d.all, slotsG_length] at c
    simp only [beq_eq_false_iff_ne] at c
    omega
  · have cc := pcAt hpc 1 rfl
    simp only [SB.den] at cc
    have cc := of_decide_eq_false cc
    simp only [SI.den, SL.den, q1, q2, q9] at cc
    refine ⟨rfl, ⟨_, _, J.pushedGrow (IntKind.u64.wrap ((ν.l 0).getD (x.i 0).toNat 0 * 7)) hr hi F (by simp only [Mt.vals, lkp_cons, lkp_nil, Nat.reduceEqDiff, reduceIte, SI.den, SL.den, q0, q1, q2, q3, q4, q8, q9, q11, ql, Int.toNat_zero, one]) (by simp only [Mt.vals, lkp_cons, lkp_nil, Nat.reduceEqDiff, reduceIte, SI.den, SL.den, q0, q1, q2, q3, q4, q8, q9, q11, ql, Int.toNat_zero, one]) (by simp only [Mt.vals, lkp_cons, lkp_nil, Nat.reduceEqDiff, reduceIte, SI.den, SL.den, q0, q1, q2, q3, q4, q8, q9, q11, ql, Int.toNat_zero, one]) (by simp only [Mt.vals, lkp_cons, lkp_nil, Nat.reduceEqDiff, reduceIte, SI.den, SL.den, q0, q1, q2, q3, q4, q8, q9, q11, ql, Int.toNat_zero, one]) (by simp only [Mt.vals, lkp_cons, lkp_nil, Nat.reduceEqDiff, reduceIte, SI.den, SL.den, q0, q1, q2, q3, q4, q8, q9, q11, ql, Int.toNat_zero, one]) (by simp only [Mt.vals, lkp_cons, lkp_nil, Nat.reduceEqDiff, reduceIte, SI.den, SL.den, q0, q1, q2, q3, q4, q8, q9, q11, ql, Int.toNat_zero, one]) (by simp only [Mt.vals, lkp_cons, lkp_nil, Nat.reduceEqDiff, reduceIte, SI.den, SL.den, q0, q1, q2, q3, q4, q8, q9, q11, ql, Int.toNat_zero, one]; rw [List.length_append]; simp only [List.length_cons, List.length_nil]; omega)⟩, ?_, owed1 J rf (by simp only [SL.den, q8, List.length_set])⟩
    show ((ν.l 0).length - Vals.i (Mt.vals _ _ _) 0).toNat < ((ν.l 0).length - x.i 0).toNat
    simp only [Mt.vals, lkp_cons, lkp_nil, Nat.reduceEqDiff, reduceIte, SI.den, SL.den, q0, q1, q2, q3, q4, q8, q9, q11, ql, Int.toNat_zero, one]
    omega
  · have c := pcAt hpc 3 rfl
    obtain ⟨d, e⟩ := J.pushed (IntKind.u64.wrap ((ν.l 0).getD (x.i 0).toNat 0 * 7)) hr
    have hn := J.n2
    have ho := J.o0
    have hin := J.in0
    rw [eqG_den hI2] at c
    simp only [gl40_den hI2] at c
    simp only [SI.den, SL.den, q0, q1, q2, q3, q8, q9, q11, ql, Int.toNat_zero, one] at c
    rw [d.all, e] at c
    exfalso
    rw [beq_eq_false_iff_ne] at c
    exact c (J.growList _)

theorem c1_13 (hI : ν.I = inM) (F : FD ν) (rf : RF nDn ν x ν2) (hi : x.i 0 < (ν.l 0).length) (J : J1 ν x t n) (hr : x.i 2 < ν.i 11) : ∀ t ∈ s1_13, pcDen ν2 t.pc → GD ν ν2 (mD1 ν x) t := by
  have q0 : ν2.i (nDn + 0) = x.i 0 := rf.i 0 (by decide)
  have q1 : ν2.i (nDn + 1) = x.i 1 := rf.i 1 (by decide)
  have q2 : ν2.i (nDn + 2) = x.i 2 := rf.i 2 (by decide)
  have q3 : ν2.i (nDn + 3) = x.i 3 := rf.i 3 (by decide)
  have q4 : ν2.i (nDn + 4) = x.i 4 := rf.i 4 (by decide)
  have q8 : ν2.l (nDn + 8) = x.l 8 := rf.l 8 (by decide)
  have q9 : ν2.l (nDn + 9) = x.l 9 := rf.l 9 (by decide)
  have q11 : ν2.i 11 = ν.i 11 := rf.io 11 (by decide)
  have ql : ν2.l 0 = ν.l 0 := rf.lo 0 (by decide)
  have hI2 : ν2.I = inM := rf.I.trans hI
  intro t ht hpc
  simp only [s1_13, List.mem_cons, List.not_mem_nil, or_false] at ht
  rcases ht with rfl | rfl | rfl
  · have c := pcAt hpc 3 rfl
    obtain ⟨d, e⟩ := J.pushed (IntKind.u64.wrap ((ν.l 0).getD (x.i 0).toNat 0 * 7)) hr
    have hn := J.n2
    have ho := J.o0
    have hin := J.in0
    simp only [SB.den] at c
    simp only [SI.den, gl40_den hI2] at c
    simp only [SI.den, SL.den, q0, q1, q2, q3, q8, q9, q11, ql, Int.toNat_zero, one] at c
    rw [d.all, slotsG_length] at c
    simp only [beq_eq_false_iff_ne] at c
    omega
  · have cc := pcAt hpc 1 rfl
    simp only [SB.den] at cc
    have cc := of_decide_eq_false cc
    simp only [SI.den, SL.den, q1, q2, q9] at cc
    refine ⟨rfl, ⟨_, _, J.pushedGrow (IntKind.u64.wrap ((ν.l 0).getD (x.i 0).toNat 0 * 7)) hr hi F (by simp only [Mt.vals, lkp_cons, lkp_nil, Nat.reduceEqDiff, reduceIte, SI.den, SL.den, q0, q1, q2, q3, q4, q8, q9, q11, ql, Int.toNat_zero, one]) (by simp only [Mt.vals, lkp_cons, lkp_nil, Nat.reduceEqDiff, reduceIte, SI.den, SL.den, q0, q1, q2, q3, q4, q8, q9, q11, ql, Int.toNat_zero, one]) (by simp only [Mt.vals, lkp_cons, lkp_nil, Nat.reduceEqDiff, reduceIte, SI.den, SL.den, q0, q1, q2, q3, q4, q8, q9, q11, ql, Int.toNat_zero, one]) (by simp only [Mt.vals, lkp_cons, lkp_nil, Nat.reduceEqDiff, reduceIte, SI.den, SL.den, q0, q1, q2, q3, q4, q8, q9, q11, ql, Int.toNat_zero, one]) (by simp only [Mt.vals, lkp_cons, lkp_nil, Nat.reduceEqDiff, reduceIte, SI.den, SL.den, q0, q1, q2, q3, q4, q8, q9, q11, ql, Int.toNat_zero, one]) (by simp only [Mt.vals, lkp_cons, lkp_nil, Nat.reduceEqDiff, reduceIte, SI.den, SL.den, q0, q1, q2, q3, q4, q8, q9, q11, ql, Int.toNat_zero, one]) (by simp only [Mt.vals, lkp_cons, lkp_nil, Nat.reduceEqDiff, reduceIte, SI.den, SL.den, q0, q1, q2, q3, q4, q8, q9, q11, ql, Int.toNat_zero, one]; rw [List.length_append]; simp only [List.length_cons, List.length_nil]; omega)⟩, ?_, owed1 J rf (by simp only [SL.den, q8, List.length_set])⟩
    show ((ν.l 0).length - Vals.i (Mt.vals _ _ _) 0).toNat < ((ν.l 0).length - x.i 0).toNat
    simp only [Mt.vals, lkp_cons, lkp_nil, Nat.reduceEqDiff, reduceIte, SI.den, SL.den, q0, q1, q2, q3, q4, q8, q9, q11, ql, Int.toNat_zero, one]
    omega
  · have c := pcAt hpc 3 rfl
    obtain ⟨d, e⟩ := J.pushed (IntKind.u64.wrap ((ν.l 0).getD (x.i 0).toNat 0 * 7)) hr
    have hn := J.n2
    have ho := J.o0
    have hin := J.in0
    rw [eqG_den hI2] at c
    simp only [gl40_den hI2] at c
    simp only [SI.den, SL.den, q0, q1, q2, q3, q8, q9, q11, ql, Int.toNat_zero, one] at c
    rw [d.all, e] at c
    exfalso
    rw [beq_eq_false_iff_ne] at c
    exact c (J.growList _)

end
end Go.Proofs.Ytjcphbcjnjeccaa
end

section
namespace Go.Proofs.Ytjcphbcjnjeccaa
open Go Go.Sy Go.RowKit

attribute [local irreducible] nmAt
/-- the cells as the memory was filled -/
def base0 (ν : Env Gh) : List Int := ν.i 12 :: ν.i 12 :: List.drop 2 (List.replicate (ν.i 11 + 2).toNat 0)
theorem base_dq {ν : Env Gh} (F : FD ν) : DQ (base0 ν) (ν.i 11) (ν.i 12) 0 := by
  have h := F.pow.le
  have h0 := F.f0
  have h1 := F.f1
  refine ⟨F.pow, ?_, h0, h1, rfl, ?_, by omega⟩
  · simp only [base0, List.length_cons, List.length_drop, List.length_replicate]; omega
  · show ν.i 12 = _
    omega
theorem base_same {ν : Env Gh} : ((base0 ν).set 0 (ν.i 12)).set 1 (ν.i 12) = base0 ν := rfl
theorem base_same' {ν : Env Gh} : ((base0 ν).set 1 (ν.i 12)).set 0 (ν.i 12) = base0 ν := rfl
/-- the list is empty, or has one word -/
theorem J1.begin_ {ν : Env Gh} {y : Vals Gh} (F : FD ν) (hi : 0 < (ν.l 0).length) (y0 : y.i 0 = 1) (y1 : y.i 1 = 0) (y2 : y.i 2 = 0) (y3 : y.i 3 = 0) (y4 : y.i 4 = 0) (y8 : y.l 8 = base0 ν) (y9 : y.l 9 = []) : J1 ν y (ν.i 12) 0 := by
  refine ⟨by rw [y8]; exact base_dq F, by omega, by simp [slotsG], by omega, by omega, by omega, by omega, by rw [y1, y9]; simp, by rw [y9]; simp; omega, by omega, by omega⟩
theorem push0 {ν : Env Gh} (F : FD ν) (v : Int) : DQ ((((base0 ν).set (2 + bitsDen 0 .u64 (ν.i 12) (ν.i 11 - 1)).toNat v).set 0 (ν.i 12)).set 1 (IntKind.u64.wrap (ν.i 12 + 1))) (ν.i 11) (ν.i 12) 1 ∧
    sl ((((base0 ν).set (2 + bitsDen 0 .u64 (ν.i 12) (ν.i 11 - 1)).toNat v).set 0 (ν.i 12)).set 1 (IntKind.u64.wrap (ν.i 12 + 1))) (ν.i 11) (ν.i 12) 1 = [v] := by
  have h := F.pow.le
  have hs := slot_lt (ν.i 12) _ F.pow
  obtain ⟨d1, d2⟩ := (base_dq F).push (by omega) (IntKind.u64.wrap (ν.i 12 + 1)) v (by rw [wu]; omega) _ rfl
  have e : (((base0 ν).set (2 + bitsDen 0 .u64 (ν.i 12) (ν.i 11 - 1)).toNat v).set 0 (ν.i 12)).set 1 (IntKind.u64.wrap (ν.i 12 + 1)) = ((base0 ν).set 1 (IntKind.u64.wrap (ν.i 12 + 1))).set (2 + bitsDen 0 .u64 ((base0 ν).getD 1 0) (ν.i 11 - 1)).toNat v := by
    rw [show (base0 ν).getD 1 0 = ν.i 12 from rfl, List.set_comm (l := base0 ν) (i := (2 + bitsDen 0 .u64 (ν.i 12) (ν.i 11 - 1)).toNat) (j := 0) _ _ (by omega), show (base0 ν).set 0 (ν.i 12) = base0 ν from rfl, List.set_comm _ _ (by omega)]
  rw [e]
  refine ⟨d1, by rw [d2]; simp [slotsG]⟩
theorem J1.begin1 {ν : Env Gh} {y : Vals Gh} (F : FD ν) (v : Int) (hi : 0 < (ν.l 0).length) (y0 : y.i 0 = 1) (y1 : y.i 1 = 0) (y2 : y.i 2 = 1) (y3 : y.i 3 = y.i 4) (y8 : y.l 8 = (((base0 ν).set (2 + bitsDen 0 .u64 (ν.i 12) (ν.i 11 - 1)).toNat v).set 0 (ν.i 12)).set 1 (IntKind.u64.wrap (ν.i 12 + 1))) (y9 : y.l 9 = [v]) (hy : 1 ≤ y.i 4) : J1 ν y (ν.i 12) 1 := by
  obtain ⟨d1, d2⟩ := push0 F v
  refine ⟨by rw [y8]; exact d1, by omega, ?_, by omega, by omega, by omega, by omega, by rw [y1, y9]; simp, by rw [y9]; simp; omega, by omega, by omega⟩
  rw [y8, d2, y9, y1]; rfl
section
variable {ν ν2 : Env Gh} {x : Vals Gh}
theorem owed0 {y : Vals Gh} (F : FD ν) (h11 : ν2.i 11 = ν.i 11) {b : List (Nat × Nat)} {i : List (Nat × SI)} {ls : List (Nat × SL)} {g : List (Nat × SG)} : (⟨b, i, ls, g, [(.add (.add (.len (.drop (.rep (.add (.var 11) (.lit 2)) (.lit 0)) (.lit 2))) (.lit 1)) (.lit 1), .nat (.add (.var 11) (.lit 2)))], [], [], []⟩ : Mt).Owed ν2 (ν.at nDn y) := by
  have rf3 : RF nDn ν y (ν.at nDn y) := RF.self rfl
  have h2 := F.pow.le
  constructor
  · intro z hz
    simp only [List.mem_cons, List.not_mem_nil, or_false] at hz
    subst hz
    simp only [SI.den, SL.den, rf3.io 11 (by decide), h11, List.length_drop, List.length_replicate]
    omega
  · simp
  · simp
  · simp
theorem q0den (h11 : ν2.i 11 = ν.i 11) (h12 : ν2.i 12 = ν.i 12) : (SL.cons (.var 12) (.cons (.var 12) (.drop (.rep (.add (.var 11) (.lit 2)) (.lit 0)) (.lit 2)))).den ν2 = base0 ν := by
  simp only [SL.den, SI.den, h11, h12, base0]; rfl
theorem c0_1 (F : FD ν) (rf : RF nDn ν x ν2) (hi : 0 < (ν.l 0).length) : ∀ t ∈ s0_1, pcDen ν2 t.pc → GD ν ν2 ((ν.l 0).length + 1) t := by
  have q11 : ν2.i 11 = ν.i 11 := rf.io 11 (by decide)
  have q12 : ν2.i 12 = ν.i 12 := rf.io 12 (by decide)
  intro t ht hpc
  simp only [s0_1, List.mem_cons, List.not_mem_nil, or_false] at ht
  subst ht
  refine ⟨rfl, ⟨_, _, J1.begin_ F hi (by simp only [Mt.vals, lkp_cons, lkp_nil, Nat.reduceEqDiff, reduceIte, SI.den]) (by simp only [Mt.vals, lkp_cons, lkp_nil, Nat.reduceEqDiff, reduceIte, SI.den]) (by simp only [Mt.vals, lkp_cons, lkp_nil, Nat.reduceEqDiff, reduceIte, SI.den]) (by simp only [Mt.vals, lkp_cons, lkp_nil, Nat.reduceEqDiff, reduceIte, SI.den]) (by simp only [Mt.vals, lkp_cons, lkp_nil, Nat.reduceEqDiff, reduceIte, SI.den])
    ?_ (by simp only [Mt.vals, lkp_cons, lkp_nil, Nat.reduceEqDiff, reduceIte, SL.den])⟩, ?_, owed0 F q11⟩
  · simp only [Mt.vals, lkp_cons, lkp_nil, Nat.reduceEqDiff, reduceIte]
    rw [SL.den, SL.den, q0den q11 q12]
    simp only [SI.den, q12, Int.toNat_zero, one]
    exact base_same
  · show ((ν.l 0).length - Vals.i (Mt.vals _ _ _) 0).toNat < (ν.l 0).length + 1
    simp only [Mt.vals, lkp_cons, lkp_nil, Nat.reduceEqDiff, reduceIte, SI.den]
    omega
theorem c0_2 (F : FD ν) (rf : RF nDn ν x ν2) (hi : 0 < (ν.l 0).length) : ∀ t ∈ s0_2, pcDen ν2 t.pc → GD ν ν2 ((ν.l 0).length + 1) t := by
  have q11 : ν2.i 11 = ν.i 11 := rf.io 11 (by decide)
  have q12 : ν2.i 12 = ν.i 12 := rf.io 12 (by decide)
  intro t ht hpc
  simp only [s0_2, List.mem_cons, List.not_mem_nil, or_false] at ht
  subst ht
  refine ⟨rfl, ⟨_, _, J1.begin_ F hi (by simp only [Mt.vals, lkp_cons, lkp_nil, Nat.reduceEqDiff, reduceIte, SI.den]) (by simp only [Mt.vals, lkp_cons, lkp_nil, Nat.reduceEqDiff, reduceIte, SI.den]) (by simp only [Mt.vals, lkp_cons, lkp_nil, Nat.reduceEqDiff, reduceIte, SI.den]) (by simp only [Mt.vals, lkp_cons, lkp_nil, Nat.reduceEqDiff, reduceIte, SI.den]) (by simp only [Mt.vals, lkp_cons, lkp_nil, Nat.reduceEqDiff, reduceIte, SI.den])
    ?_ (by simp only [Mt.vals, lkp_cons, lkp_nil, Nat.reduceEqDiff, reduceIte, SL.den])⟩, ?_, owed0 F q11⟩
  · simp only [Mt.vals, lkp_cons, lkp_nil, Nat.reduceEqDiff, reduceIte]
    rw [SL.den, SL.den, q0den q11 q12]
    simp only [SI.den, q12, Int.toNat_zero, one]
    exact base_same'
  · show ((ν.l 0).length - Vals.i (Mt.vals _ _ _) 0).toNat < (ν.l 0).length + 1
    simp only [Mt.vals, lkp_cons, lkp_nil, Nat.reduceEqDiff, reduceIte, SI.den]
    omega
theorem c0_3 (hI : ν.I = inM) (F : FD ν) (rf : RF nDn ν x ν2) (hi : 0 < (ν.l 0).length) : ∀ t ∈ s0_3, pcDen ν2 t.pc → GD ν ν2 ((ν.l 0).length + 1) t := by
  have q11 : ν2.i 11 = ν.i 11 := rf.io 11 (by decide)
  have q12 : ν2.i 12 = ν.i 12 := rf.io 12 (by decide)
  have ql : ν2.l 0 = ν.l 0 := rf.lo 0 (by decide)
  have hI2 : ν2.I = inM := rf.I.trans hI
  obtain ⟨d, e⟩ := push0 F (IntKind.u64.wrap ((ν.l 0).getD 0 0 * 7))
  have lden : ∀ A : SL, A.den ν2 = base0 ν → (SL.set (.set (.set A (.add (.lit 2) (.bits 0 .u64 (.var 12) (.sub (.var 11) (.lit 1)))) (.wrap .u64 (.mul (.nth (.var 0) (.lit 0)) (.lit 7)))) (.lit 0) (.var 12)) (.lit 1) (.wrap .u64 (.add (.var 12) (.lit 1)))).den ν2 = (((base0 ν).set (2 + bitsDen 0 .u64 (ν.i 12) (ν.i 11 - 1)).toNat (IntKind.u64.wrap ((ν.l 0).getD 0 0 * 7))).set 0 (ν.i 12)).set 1 (IntKind.u64.wrap (ν.i 12 + 1)) := by
    intro A hA
    simp only [SL.den, SI.den, hA, q11, q12, ql, Int.toNat_zero, one]
  have ld := lden _ (q0den q11 q12)
  intro t ht hpc
  simp only [s0_3, List.mem_cons, List.not_mem_nil, or_false] at ht
  rcases ht with rfl | rfl | rfl
  · have c := pcAt hpc 3 rfl
    simp only [SB.den] at c
    simp only [SI.den, gl40_den hI2, ld, q11, Int.toNat_zero, one] at c
    rw [d.all, slotsG_length] at c
    simp at c
  · have cc := pcAt hpc 1 rfl
    simp only [SB.den] at cc
    have cc := of_decide_eq_false cc
    simp only [SI.den] at cc
    refine ⟨rfl, ⟨_, _, J1.begin1 F (IntKind.u64.wrap ((ν.l 0).getD 0 0 * 7)) hi (by simp only [Mt.vals, lkp_cons, lkp_nil, Nat.reduceEqDiff, reduceIte, SI.den, SL.den, ql, Int.toNat_zero, one]) (by simp only [Mt.vals, lkp_cons, lkp_nil, Nat.reduceEqDiff, reduceIte, SI.den, SL.den, ql, Int.toNat_zero, one]) (by simp only [Mt.vals, lkp_cons, lkp_nil, Nat.reduceEqDiff, reduceIte, SI.den, SL.den, ql, Int.toNat_zero, one]) (by simp only [Mt.vals, lkp_cons, lkp_nil, Nat.reduceEqDiff, reduceIte, SI.den, SL.den, ql, Int.toNat_zero, one]) (by simp only [Mt.vals, lkp_cons, lkp_nil, Nat.reduceEqDiff, reduceIte]; exact ld) (by simp only [Mt.vals, lkp_cons, lkp_nil, Nat.reduceEqDiff, reduceIte, SI.den, SL.den, ql, Int.toNat_zero, one]) (by simp only [Mt.vals, lkp_cons, lkp_nil, Nat.reduceEqDiff, reduceIte]; simp only [SI.den]; omega)⟩, ?_, owed0 F q11⟩
    show ((ν.l 0).length - Vals.i (Mt.vals _ _ _) 0).toNat < (ν.l 0).length + 1
    simp only [Mt.vals, lkp_cons, lkp_nil, Nat.reduceEqDiff, reduceIte, SI.den]
    omega
  · have c := pcAt hpc 3 rfl
    rw [eqG_den hI2] at c
    simp only [gl40_den hI2, ld] at c
    simp only [SI.den, ld, q11, Int.toNat_zero, one] at c
    rw [d.all, e] at c
    simp only [SL.den, SI.den, ql, Int.toNat_zero] at c
    simp at c
theorem c0_4 (hI : ν.I = inM) (F : FD ν) (rf : RF nDn ν x ν2) (hi : 0 < (ν.l 0).length) : ∀ t ∈ s0_4, pcDen ν2 t.pc → GD ν ν2 ((ν.l 0).length + 1) t := by
  have q11 : ν2.i 11 = ν.i 11 := rf.io 11 (by decide)
  have q12 : ν2.i 12 = ν.i 12 := rf.io 12 (by decide)
  have ql : ν2.l 0 = ν.l 0 := rf.lo 0 (by decide)
  have hI2 : ν2.I = inM := rf.I.trans hI
  obtain ⟨d, e⟩ := push0 F (IntKind.u64.wrap ((ν.l 0).getD 0 0 * 7))
  have lden : ∀ A : SL, A.den ν2 = base0 ν → (SL.set (.set (.set A (.add (.lit 2) (.bits 0 .u64 (.var 12) (.sub (.var 11) (.lit 1)))) (.wrap .u64 (.mul (.nth (.var 0) (.lit 0)) (.lit 7)))) (.lit 0) (.var 12)) (.lit 1) (.wrap .u64 (.add (.var 12) (.lit 1)))).den ν2 = (((base0 ν).set (2 + bitsDen 0 .u64 (ν.i 12) (ν.i 11 - 1)).toNat (IntKind.u64.wrap ((ν.l 0).getD 0 0 * 7))).set 0 (ν.i 12)).set 1 (IntKind.u64.wrap (ν.i 12 + 1)) := by
    intro A hA
    simp only [SL.den, SI.den, hA, q11, q12, ql, Int.toNat_zero, one]
  have ld := lden _ (q0den q11 q12)
  intro t ht hpc
  simp only [s0_4, List.mem_cons, List.not_mem_nil, or_false] at ht
  rcases ht with rfl | rfl | rfl
  · have c := pcAt hpc 3 rfl
    simp only [SB.den] at c
    simp only [SI.den, gl40_den hI2, ld, q11, Int.toNat_zero, one] at c
    rw [d.all, slotsG_length] at c
    simp at c
  · have cc := pcAt hpc 1 rfl
    simp only [SB.den] at cc
    have cc := of_decide_eq_false cc
    simp only [SI.den] at cc
    refine ⟨rfl, ⟨_, _, J1.begin1 F (IntKind.u64.wrap ((ν.l 0).getD 0 0 * 7)) hi (by simp only [Mt.vals, lkp_cons, lkp_nil, Nat.reduceEqDiff, reduceIte, SI.den, SL.den, ql, Int.toNat_zero, one]) (by simp only [Mt.vals, lkp_cons, lkp_nil, Nat.reduceEqDiff, reduceIte, SI.den, SL.den, ql, Int.toNat_zero, one]) (by simp only [Mt.vals, lkp_cons, lkp_nil, Nat.reduceEqDiff, reduceIte, SI.den, SL.den, ql, Int.toNat_zero, one]) (by simp only [Mt.vals, lkp_cons, lkp_nil, Nat.reduceEqDiff, reduceIte, SI.den, SL.den, ql, Int.toNat_zero, one]) (by simp only [Mt.vals, lkp_cons, lkp_nil, Nat.reduceEqDiff, reduceIte]; exact ld) (by simp only [Mt.vals, lkp_cons, lkp_nil, Nat.reduceEqDiff, reduceIte, SI.den, SL.den, ql, Int.toNat_zero, one]) (by simp only [Mt.vals, lkp_cons, lkp_nil, Nat.reduceEqDiff, reduceIte]; simp only [SI.den]; omega)⟩, ?_, owed0 F q11⟩
    show ((ν.l 0).length - Vals.i (Mt.vals _ _ _) 0).toNat < (ν.l 0).length + 1
    simp only [Mt.vals, lkp_cons, lkp_nil, Nat.reduceEqDiff, reduceIte, SI.den]
    omega
  · have c := pcAt hpc 3 rfl
    rw [eqG_den hI2] at c
    simp only [gl40_den hI2, ld] at c
    simp only [SI.den, ld, q11, Int.toNat_zero, one] at c
    rw [d.all, e] at c
    simp only [SL.den, SI.den, ql, Int.toNat_zero] at c
    simp at c
end
end Go.Proofs.Ytjcphbcjnjeccaa
end
