/- Plain laws of an arena's cells: what a take, a put make of the chain of the free. -/
import Derived.Test.YtoogepoalbhlhaaLwXA
import Derived.Test.YtoogepoalbhlhaaLwAaT
import Derived.Test.YtoogepoalbhlhaaLwXC
set_option linter.unusedVariables false
set_option linter.unusedSimpArgs false

section
namespace Go.Proofs.Ytoogepoalbhlhaa
open Go Go.Sy Go.RowKit

theorem wrap32 (x : Int) : IntKind.u32.wrap x = x % 4294967296 := by
  rw [IntKind.wrap_u32]
/-- a count laid above an index: the index -/
theorem low_pack (a b : Int) (h0 : 0 ≤ b) (h1 : b < 4294967296) : IntKind.u32.wrap (bitsDen 1 .u64 (IntKind.u64.wrap (a * 4294967296)) b) = b := by
  have e : bitsDen 1 .u64 (IntKind.u64.wrap (a * 4294967296)) b = (BitVec.ofInt 64 (IntKind.u64.wrap (a * 4294967296)) ||| BitVec.ofInt 64 b).toNat := by
    show IntKind.u64.wrap ((BitVec.ofInt 64 (IntKind.u64.wrap (a * 4294967296)) ||| BitVec.ofInt 64 b).toNat : Int) = _
    rw [wrapU]
    have := BitVec.isLt (BitVec.ofInt 64 (IntKind.u64.wrap (a * 4294967296)) ||| BitVec.ofInt 64 b)
    generalize (BitVec.ofInt 64 (IntKind.u64.wrap (a * 4294967296)) ||| BitVec.ofInt 64 b).toNat = m at this
    omega
  rw [e, wrap32]
  obtain ⟨n, rfl⟩ : ∃ n : Nat, b = n := ⟨b.toNat, by omega⟩
  have hx : (BitVec.ofInt 64 (IntKind.u64.wrap (a * 4294967296))).toNat % 2 ^ 32 = 0 := by
    rw [BitVec.toNat_ofInt, wrapU]
    omega
  have hy : (BitVec.ofInt 64 (n : Int)).toNat = n := by
    rw [BitVec.toNat_ofInt]; omega
  rw [BitVec.toNat_or, hy]
  have h2 : ((BitVec.ofInt 64 (IntKind.u64.wrap (a * 4294967296))).toNat ||| n) % 2 ^ 32 = n := by
    rw [Nat.or_mod_two_pow, hx, Nat.zero_or]
    exact Nat.mod_eq_of_lt (by omega)
  omega
/-- Cells 0..N of an arena of N nodes: the free ones F (the last one put back is last), those H that were taken. -/
structure AR (N : Int) (l F H : List Int) : Prop where
  len : (l.length : Int) = N + 1
  top : IntKind.u32.wrap (l.getD 0 0) = ((0 : Int) :: F).getD F.length 0
  link : ∀ k, k < F.length → IntKind.u32.wrap (l.getD (F.getD k 0).toNat 0) = ((0 : Int) :: F).getD k 0
  bnd : ∀ x ∈ F ++ H, 1 ≤ x ∧ x ≤ N
  nd : (F ++ H).Nodup
  tot : (F.length : Int) + H.length = N
theorem pad_len (F : List Int) : ((0 : Int) :: F).getD F.length 0 = F.getLast?.getD 0 := by
  rw [List.getLast?_eq_getElem?]
  cases F with
  | nil => rfl
  | cons a t => simp [List.getD_eq_getElem?_getD]
theorem getD_set_eq' (l : List Int) (i : Nat) (v : Int) (h : i < l.length) : (l.set i v).getD i 0 = v := by
  simp [List.getD_eq_getElem?_getD, h]
theorem getD_set_ne' (l : List Int) (i j : Nat) (v : Int) (h : i ≠ j) : (l.set i v).getD j 0 = l.getD j 0 := by
  simp [List.getD_eq_getElem?_getD, List.getElem?_set_ne h]
theorem getD_mem {l : List Int} {k : Nat} (h : k < l.length) : l.getD k 0 ∈ l := by
  simp [List.getD_eq_getElem?_getD, h]
theorem pad_snoc {F : List Int} {v : Int} {k : Nat} (h : k ≤ F.length) : ((0 : Int) :: (F ++ [v])).getD k 0 = ((0 : Int) :: F).getD k 0 := by
  cases k with
  | zero => rfl
  | succ k =>
    show (F ++ [v]).getD k 0 = F.getD k 0
    simp only [List.getD_eq_getElem?_getD]
    rw [List.getElem?_append_left (by omega)]
theorem snoc_get {F : List Int} {v : Int} {k : Nat} (h : k < F.length) : (F ++ [v]).getD k 0 = F.getD k 0 := by
  simp only [List.getD_eq_getElem?_getD]; rw [List.getElem?_append_left h]
theorem snoc_last (F : List Int) (v : Int) : (F ++ [v]).getD F.length 0 = v := by simp [List.getD_eq_getElem?_getD]
section
variable {N : Int} {l F H : List Int} {v : Int}
theorem AR.low_top (h : AR N l (F ++ [v]) H) : IntKind.u32.wrap (l.getD 0 0) = v := by
  rw [h.top, pad_len]; simp
theorem AR.low_nil (h : AR N l [] H) : IntKind.u32.wrap (l.getD 0 0) = 0 := h.top
theorem AR.top_bnd (h : AR N l (F ++ [v]) H) : 1 ≤ v ∧ v ≤ N := h.bnd v (by simp)
theorem AR.take (h : AR N l (F ++ [v]) H) (hN : N ≤ 1000) (a : Int) : AR N (l.set 0 (bitsDen 1 .u64 (IntKind.u64.wrap (a * 4294967296)) (IntKind.u32.wrap (l.getD (IntKind.u32.wrap (l.getD 0 0)).toNat 0)))) F (H ++ [v]) := by
  have hb := h.top_bnd
  have hl := h.len
  have h0 : (0 : Int) ≤ IntKind.u32.wrap (l.getD (IntKind.u32.wrap (l.getD 0 0)).toNat 0) ∧ IntKind.u32.wrap (l.getD (IntKind.u32.wrap (l.getD 0 0)).toNat 0) < 4294967296 := by rw [wrap32]; omega
  have e : IntKind.u32.wrap (l.getD v.toNat 0) = ((0 : Int) :: F).getD F.length 0 := by
    have := h.link F.length (by simp)
    rwa [snoc_last, pad_snoc (Nat.le_refl _)] at this
  have p : (F ++ [v]) ++ H = F ++ ([v] ++ H) := by simp
  have perm : ((F ++ [v]) ++ H).Perm (F ++ (H ++ [v])) := by rw [p]; exact List.perm_append_comm.append_left F
  refine ⟨by simpa using h.len, ?_, fun k hk => ?_, fun x hx => h.bnd x (perm.mem_iff.2 hx), perm.nodup_iff.1 h.nd, ?_⟩
  · rw [getD_set_eq' _ _ _ (by omega), low_pack _ _ h0.1 h0.2, h.low_top, e]
  · have hm := h.bnd (F.getD k 0) (List.mem_append_left _ (List.mem_append_left _ (getD_mem hk)))
    rw [getD_set_ne' _ _ _ _ (by omega)]
    have := h.link k (by simp; omega)
    rwa [snoc_get hk, pad_snoc (by omega)] at this
  · have := h.tot
    simp only [List.length_append, List.length_cons, List.length_nil] at this ⊢
    omega
theorem AR.put {A B : List Int} (h : AR N l F (A ++ v :: B)) (hN : N ≤ 1000) (a : Int) : AR N ((l.set 0 (bitsDen 1 .u64 (IntKind.u64.wrap (a * 4294967296)) v)).set v.toNat (IntKind.u32.wrap (l.getD 0 0))) (F ++ [v]) (A ++ B) := by
  have hb : 1 ≤ v ∧ v ≤ N := h.bnd v (by simp)
  have hl := h.len
  have perm : (F ++ (A ++ v :: B)).Perm ((F ++ [v]) ++ (A ++ B)) := by
    rw [List.append_assoc]
    exact List.perm_middle.append_left F
  refine ⟨by simpa using h.len, ?_, fun k hk => ?_, fun x hx => h.bnd x (perm.mem_iff.2 hx), perm.nodup_iff.1 h.nd, ?_⟩
  · rw [getD_set_ne' _ _ _ _ (by omega), getD_set_eq' _ _ _ (by omega), low_pack _ _ (by omega) (by omega), pad_len]; simp
  · rw [pad_snoc (by simp at hk; omega)]
    by_cases hk2 : k < F.length
    · have hm := h.bnd (F.getD k 0) (List.mem_append_left _ (getD_mem hk2))
      have hne : F.getD k 0 ≠ v := by
        intro e
        have hd := (List.nodup_append.1 h.nd).2.2 (F.getD k 0) (getD_mem hk2) v (by simp)
        exact hd e
      rw [snoc_get hk2, getD_set_ne' _ _ _ _ (by omega), getD_set_ne' _ _ _ _ (by omega)]
      exact h.link k hk2
    · have e : k = F.length := by simp at hk; omega
      subst e
      rw [snoc_last, getD_set_eq' _ _ _ (by rw [List.length_set]; omega), h.top]
      have : IntKind.u32.wrap (((0 : Int) :: F).getD F.length 0) = IntKind.u32.wrap (IntKind.u32.wrap (l.getD 0 0)) := by rw [h.top]
      rw [this, wrap32, wrap32, Int.emod_emod_of_dvd _ (Int.dvd_refl _), ← wrap32, h.top]
  · have := h.tot
    simp only [List.length_append, List.length_cons, List.length_nil] at this ⊢
    omega
end
/-- a list's first words, its last one apart -/
theorem take_snoc {l : List Int} {n : Nat} (h : n < l.length) : l.take (n + 1) = l.take n ++ [l.getD n 0] := by
  rw [List.take_add_one]
  simp [List.getD_eq_getElem?_getD, h]
theorem take_at {l : List Int} {n a : Nat} (ha : a < n) (h : n ≤ l.length) : l.take n = l.take a ++ l.getD a 0 :: (l.drop (a + 1)).take (n - (a + 1)) := by
  have h1 : l.take n = (l.take n).take a ++ (l.take n).drop a := (List.take_append_drop a _).symm
  rw [h1, List.take_take, Nat.min_eq_left (by omega), List.drop_take]
  congr 1
  rw [show n - a = (n - (a + 1)) + 1 by omega, List.drop_eq_getElem_cons (by omega), List.take_succ_cons]
  simp [List.getD_eq_getElem?_getD, show a < l.length by omega]
end Go.Proofs.Ytoogepoalbhlhaa
end

section
namespace Go.Proofs.Ytoogepoalbhlhaa
open Go Go.Sy Go.RowKit

theorem fA2 {ν : Env Gh} (hI : ν.I = inM) (h : pcDen ν pcEAa) : FA ν := by
  have h1 := lt_den (pcAt h 3 rfl)
  have h2 := lt_den (pcAt h 4 rfl)
  have h3 := lt_den (pcAt h 5 rfl)
  have h4 := pcAt h 6 rfl
  simp only [SI.den, SL.den, Bool.false_eq_true, iff_false] at h1 h2 h3
  exact ⟨by omega, by omega, by omega, (range_den hI (.var 0) 0 255).1 h4⟩
theorem AR.low_le {N : Int} {l F H : List Int} (h : AR N l F H) (hN : 0 ≤ N) : IntKind.u32.wrap (l.getD 0 0) ≤ N := by
  rw [h.top, pad_len]
  cases hF : F.getLast? with
  | none => simpa using hN
  | some v => simpa using (h.bnd v (List.mem_append_left _ (List.mem_of_getLast? hF))).2
/-- the free ones, the cells; taken are H -/
structure JP (ν : Env Gh) (x : Vals Gh) (H : List Int) : Prop where
  ar : AR (ν.i 11) (x.l 8) ((x.l 9).take (x.i 2).toNat) H
  o : x.i 1 = 0
  n0 : 0 ≤ x.i 2
  n1 : x.i 2 ≤ (x.l 9).length
  n2 : (x.l 9).length ≤ 20
  cap : x.i 2 ≤ x.i 3
  room : x.i 3 ≤ x.i 4
structure JQ (ν : Env Gh) (x : Vals Gh) : Prop where
  p : JP ν x ((x.l 20).take (x.i 17).toNat)
  i0 : 0 ≤ x.i 0
  i1 : x.i 0 ≤ (ν.l 0).length
  o : x.i 16 = 0
  n0 : 0 ≤ x.i 17
  n1 : x.i 17 ≤ (x.l 20).length
  n2 : (x.l 20).length ≤ 20
  cap : x.i 17 ≤ x.i 18
  room : x.i 18 ≤ x.i 19
theorem h0pcA : (hdAt headsA 0).pc = pFree ++ (pMemA ++ (pD (.lit 0) ++ pcEAa)) := by kernel_rfl
theorem h1pcA : (hdAt headsA 1).pc = pI ++ (pFree ++ (pHas ++ (pMemA ++ (pD (.var nAa) ++ pcEAa)))) := by kernel_rfl
theorem avEA : pav nAa (nAa + 64) pcEAa = true := by kernel_rfl
attribute [local irreducible] nmAt
section
variable {ν : Env Gh} {x y : Vals Gh} {H : List Int}
theorem JP.free_ok (F : FA ν) (J : JP ν x H) : pcDen (ν.at nAa x) pFree := by
  have rf : RF nAa ν x (ν.at nAa x) := RF.self rfl
  have hl := J.ar.low_le (by have := F.n1; omega)
  obtain ⟨ar, o, n0, n1, n2, cap, room⟩ := J
  refine pcDen_append ?_ (pcDen_one (lt_of ?_))
  · simp only [pPlace, pcDen_cons_iff, pcDen_nil_iff, and_true, SB.den]
    simp only [SI.den, SL.den, rf.i 1 (by decide), rf.i 2 (by decide), rf.i 3 (by decide), rf.i 4 (by decide), rf.l 9 (by decide)]
    refine ⟨?_, ?_, ?_, ?_, ?_, ?_, ?_, ?_⟩ <;> exact decide_eq_false (by omega)
  · simp only [lowA, hdA, SI.den, SL.den, rf.io 11 (by decide), rf.l 8 (by decide), Int.toNat_zero, Bool.false_eq_true, iff_false]
    omega
theorem JP.mem_ok (F : FA ν) (J : JP ν x H) : pcDen (ν.at nAa x) pMemA := by
  have rf : RF nAa ν x (ν.at nAa x) := RF.self rfl
  have h1 := J.ar.len
  have h2 := F.n1
  have h3 := F.n2
  simp only [pMemA, pcDen_cons_iff, pcDen_nil_iff, and_true, SB.den, beq_iff_eq]
  simp only [SI.den, SL.den, rf.io 11 (by decide), rf.l 8 (by decide)]
  exact ⟨by omega, decide_eq_true (by omega), decide_eq_true (by omega)⟩
theorem JQ.has_ok (J : JQ ν x) : pcDen (ν.at nAa x) pHas := by
  have rf : RF nAa ν x (ν.at nAa x) := RF.self rfl
  obtain ⟨p, i0, i1, o, n0, n1, n2, cap, room⟩ := J
  simp only [pHas, pPlace, pcDen_cons_iff, pcDen_nil_iff, and_true, SB.den]
  simp only [SI.den, SL.den, rf.i 16 (by decide), rf.i 17 (by decide), rf.i 18 (by decide), rf.i 19 (by decide), rf.l 20 (by decide)]
  refine ⟨?_, ?_, ?_, ?_, ?_, ?_, ?_, ?_⟩ <;> exact decide_eq_false (by omega)
theorem h0okA (F : FA ν) (hp : pcDen ν pcEAa) (J : JP ν x []) : pcDen (ν.at nAa x) (hdAt headsA 0).pc := by
  rw [h0pcA]
  have rf : RF nAa ν x (ν.at nAa x) := RF.self rfl
  refine pcDen_append (J.free_ok F) (pcDen_append (J.mem_ok F) (pcDen_append ?_ (pcDen_agree (at_agree (ρ := fun _ => 0) (ρ' := fun _ => 0) (fun _ _ => rfl)) avEA hp)))
  have := F.elem 0
  simp only [pD, dA, pcDen_cons_iff, pcDen_nil_iff, and_true, SB.den]
  simp only [SI.den, SL.den, rf.lo 0 (by decide), Int.toNat_zero]
  exact ⟨decide_eq_false (by omega), decide_eq_false (by omega)⟩
theorem h1okA (F : FA ν) (hp : pcDen ν pcEAa) (J : JQ ν x) : pcDen (ν.at nAa x) (hdAt headsA 1).pc := by
  rw [h1pcA]
  have rf : RF nAa ν x (ν.at nAa x) := RF.self rfl
  have r0 : (ν.at nAa x).i nAa = x.i 0 := rf.i 0 (by decide)
  have i0 := J.i0
  have i1 := J.i1
  have hl := F.len
  refine pcDen_append ?_ (pcDen_append (J.p.free_ok F) (pcDen_append J.has_ok (pcDen_append (J.p.mem_ok F) (pcDen_append ?_ (pcDen_agree (at_agree (ρ := fun _ => 0) (ρ' := fun _ => 0) (fun _ _ => rfl)) avEA hp)))))
  · simp only [pI, pcDen_cons_iff, pcDen_nil_iff, and_true, SB.den]
    simp only [SI.den, r0]
    exact ⟨decide_eq_false (by omega), decide_eq_false (by omega)⟩
  · have := F.elem (x.i 0).toNat
    simp only [pD, dA, pcDen_cons_iff, pcDen_nil_iff, and_true, SB.den]
    simp only [SI.den, SL.den, r0, rf.lo 0 (by decide)]
    exact ⟨decide_eq_false (by omega), decide_eq_false (by omega)⟩
/-- the last of the free ones -/
theorem JP.last (J : JP ν x H) (h : 1 ≤ x.i 2) : (x.l 9).take (x.i 2).toNat = (x.l 9).take (x.i 2 - 1).toNat ++ [(x.l 9).getD (x.i 2 - 1).toNat 0] := by
  have := J.n1
  rw [← take_snoc (by omega)]
  congr 1
  omega
theorem JP.low_full (J : JP ν x H) (h : 1 ≤ x.i 2) : IntKind.u32.wrap ((x.l 8).getD 0 0) = (x.l 9).getD (x.i 2 - 1).toNat 0 ∧ 1 ≤ (x.l 9).getD (x.i 2 - 1).toNat 0 ∧ (x.l 9).getD (x.i 2 - 1).toNat 0 ≤ ν.i 11 := by
  have a := J.ar
  rw [J.last h] at a
  exact ⟨a.low_top, a.top_bnd⟩
theorem JP.low_none (J : JP ν x H) (h : x.i 2 < 1) : IntKind.u32.wrap ((x.l 8).getD 0 0) = 0 := by
  have a := J.ar
  have := J.n0
  rw [show x.i 2 = 0 by omega] at a
  exact a.low_nil
theorem JP.taken (F : FA ν) (J : JP ν x H) (h : 1 ≤ x.i 2) (a : Int) (i0 : 0 ≤ y.i 0) (i1 : y.i 0 ≤ (ν.l 0).length) (y1 : y.i 1 = x.i 1) (y2 : y.i 2 = x.i 2 - 1) (y3 : y.i 3 = x.i 3) (y4 : y.i 4 = x.i 4)
    (y8 : y.l 8 = (x.l 8).set 0 (bitsDen 1 .u64 (IntKind.u64.wrap (a * 4294967296)) (IntKind.u32.wrap ((x.l 8).getD (IntKind.u32.wrap ((x.l 8).getD 0 0)).toNat 0)))) (y9 : y.l 9 = x.l 9)
    (y16 : y.i 16 = 0) (y17 : y.i 17 = (H.length : Int) + 1) (y20 : y.l 20 = H ++ [(x.l 9).getD (x.i 1 + (x.i 2 - 1)).toNat 0]) (hc : y.i 17 ≤ y.i 18) (hr : y.i 18 ≤ y.i 19) : JQ ν y := by
  have ar := J.ar
  have tot := ar.tot
  have N2 := F.n2
  rw [J.last h] at ar
  obtain ⟨_, o, n0, n1, n2, cap, room⟩ := J
  have t := ar.take (by omega) a
  rw [o, Int.zero_add] at y20
  have l20 : (y.l 20).length = H.length + 1 := by rw [y20]; simp
  have e20 : (y.l 20).take (y.i 17).toNat = H ++ [(x.l 9).getD (x.i 2 - 1).toNat 0] := by
    rw [List.take_of_length_le (by omega), y20]
  have htk : ((x.l 9).take (x.i 2).toNat).length = (x.i 2).toNat := by rw [List.length_take]; omega
  refine ⟨⟨?_, by omega, by omega, by rw [y9]; omega, by rw [y9]; omega, by omega, by omega⟩, i0, i1, y16, by omega, by omega, by omega, hc, hr⟩
  rw [e20, y8, y9, y2]
  exact t
theorem JP.putted {A B : List Int} {v : Int} (F : FA ν) (J : JP ν x (A ++ v :: B)) (a : Int) (i0 : 0 ≤ y.i 0) (i1 : y.i 0 ≤ (ν.l 0).length) (y1 : y.i 1 = 0) (y2 : y.i 2 = x.i 2 + 1) (y3 : y.i 2 ≤ y.i 3) (y4 : y.i 3 ≤ y.i 4)
    (y8 : y.l 8 = ((x.l 8).set 0 (bitsDen 1 .u64 (IntKind.u64.wrap (a * 4294967296)) v)).set v.toNat (IntKind.u32.wrap ((x.l 8).getD 0 0))) (y9 : y.l 9 = (x.l 9).take (x.i 2).toNat ++ [v])
    (y16 : y.i 16 = 0) (y17 : y.i 17 = (y.l 20).length) (y20 : y.l 20 = A ++ B) (hc : y.i 17 ≤ y.i 18) (hr : y.i 18 ≤ y.i 19) : JQ ν y := by
  have ar := J.ar
  have tot := ar.tot
  have N2 := F.n2
  obtain ⟨_, o, n0, n1, n2, cap, room⟩ := J
  have t := ar.put (by omega) a
  have htk : ((x.l 9).take (x.i 2).toNat).length = (x.i 2).toNat := by rw [List.length_take]; omega
  have l9 : (y.l 9).length = (x.i 2).toNat + 1 := by rw [y9]; simp [htk]
  have l20 : (y.l 20).length = A.length + B.length := by rw [y20]; simp
  simp only [List.length_append, List.length_cons] at tot
  have e20 : (y.l 20).take (y.i 17).toNat = A ++ B := by rw [List.take_of_length_le (by omega), y20]
  have e9 : (y.l 9).take (y.i 2).toNat = (x.l 9).take (x.i 2).toNat ++ [v] := by rw [List.take_of_length_le (by omega), y9]
  refine ⟨⟨?_, y1, by omega, by omega, by omega, y3, y4⟩, i0, i1, y16, by omega, by omega, by omega, hc, hr⟩
  rw [e20, e9, y8]
  exact t
theorem JQ.idle (J : JQ ν x) (hi : x.i 0 < (ν.l 0).length) (y0 : y.i 0 = x.i 0 + 1) (y1 : y.i 1 = x.i 1) (y2 : y.i 2 = x.i 2) (y3 : y.i 3 = x.i 3) (y4 : y.i 4 = x.i 4) (y8 : y.l 8 = x.l 8) (y9 : y.l 9 = x.l 9)
    (y16 : y.i 16 = x.i 16) (y17 : y.i 17 = x.i 17) (y18 : y.i 18 = x.i 18) (y19 : y.i 19 = x.i 19) (y20 : y.l 20 = x.l 20) : JQ ν y := by
  obtain ⟨⟨ar, o1, a0, a1, a2, acap, aroom⟩, i0, i1, o, n0, n1, n2, cap, room⟩ := J
  refine ⟨⟨by rw [y8, y9, y2, y20, y17]; exact ar, by omega, by omega, by rw [y9]; omega, by rw [y9]; omega, by omega, by omega⟩, by omega, by omega, by omega, by omega, by rw [y20]; omega, by rw [y20]; omega, by omega, by omega⟩
end
def mA1 (ν : Env Gh) (x : Vals Gh) : Nat := ((ν.l 0).length - x.i 0).toNat
/-- what a round owes -/
def GA (ν : Env Gh) (ν2 : Env Gh) (m0 : Nat) (t : SumT) : Prop := match t.ex with
  | .normal => t.k = 1 ∧ JQ ν (t.mt.vals (ghL []) ν2) ∧ mA1 ν (t.mt.vals (ghL []) ν2) < m0 ∧ t.mt.Owed ν2 (ν.at nAa (t.mt.vals (ghL []) ν2))
  | .bad => False
  | .exit _ => t.k = 0 ∧ t.mt.Owed ν2 (ν.at nAa (t.mt.vals (ghL []) ν2))
  | .ret => False
end Go.Proofs.Ytoogepoalbhlhaa
end

section
namespace Go.Proofs.Ytoogepoalbhlhaa
open Go Go.Sy Go.RowKit

attribute [local irreducible] nmAt
section
variable {ν ν2 : Env Gh} {x : Vals Gh}

theorem cA0_1 (hI : ν.I = inM) (F : FA ν) (rf : RF nAa ν x ν2) (hi : 0 < (ν.l 0).length) (J : JP ν x []) (h : 1 ≤ x.i 2) : ∀ t ∈ a0_1, pcDen ν2 t.pc → GA ν ν2 ((ν.l 0).length + 1) t := by
  have q0 : ν2.i (nAa + 0) = x.i 0 := rf.i 0 (by decide)
  have q1 : ν2.i (nAa + 1) = 0 := (rf.i 1 (by decide)).trans J.o
  have q2 : ν2.i (nAa + 2) = x.i 2 := rf.i 2 (by decide)
  have q3 : ν2.i (nAa + 3) = x.i 3 := rf.i 3 (by decide)
  have q4 : ν2.i (nAa + 4) = x.i 4 := rf.i 4 (by decide)
  have q8 : ν2.l (nAa + 8) = x.l 8 := rf.l 8 (by decide)
  have q9 : ν2.l (nAa + 9) = x.l 9 := rf.l 9 (by decide)
  have ql : ν2.l 0 = ν.l 0 := rf.lo 0 (by decide)
  intro t ht hpc
  simp only [a0_1, List.mem_cons, List.not_mem_nil, or_false] at ht
  rcases ht with rfl | rfl
  · have c := pcAt hpc 1 rfl
    simp only [SB.den] at c
    simp only [SI.den, SL.den, q0, q1, q2, q3, q4, q8, q9, ql, Int.toNat_zero, Int.zero_add] at c
    have b := J.low_full h
    rw [b.1, wrapU, Int.emod_eq_of_lt (by omega) (by have := F.n2; omega)] at c
    simp at c
  · have c := lt_den (pcAt hpc 1 rfl)
    simp only [SI.den, Bool.false_eq_true, iff_false] at c
    refine ⟨rfl, ?_, ?_, by constructor <;> simp⟩ <;> generalize hy : Mt.vals _ (ghL []) ν2 = y
    all_goals (
      have y0 : y.i 0 = 1 := by rw [← hy]; simp only [Mt.vals, lkp_cons, lkp_nil, Nat.reduceEqDiff, reduceIte, SI.den, SL.den, q0, q1, q2, q3, q4, q8, q9, ql, Int.toNat_zero, List.drop_zero, Int.zero_add]
      have y1 : y.i 1 = 0 := by rw [← hy]; simp only [Mt.vals, lkp_cons, lkp_nil, Nat.reduceEqDiff, reduceIte, SI.den, SL.den, q0, q1, q2, q3, q4, q8, q9, ql, Int.toNat_zero, List.drop_zero, Int.zero_add]
      have y2 : y.i 2 = x.i 2 - 1 := by rw [← hy]; simp only [Mt.vals, lkp_cons, lkp_nil, Nat.reduceEqDiff, reduceIte, SI.den, SL.den, q0, q1, q2, q3, q4, q8, q9, ql, Int.toNat_zero, List.drop_zero, Int.zero_add]
      have y3 : y.i 3 = x.i 3 := by rw [← hy]; simp only [Mt.vals, lkp_cons, lkp_nil, Nat.reduceEqDiff, reduceIte, SI.den, SL.den, q0, q1, q2, q3, q4, q8, q9, ql, Int.toNat_zero, List.drop_zero, Int.zero_add]
      have y4 : y.i 4 = x.i 4 := by rw [← hy]; simp only [Mt.vals, lkp_cons, lkp_nil, Nat.reduceEqDiff, reduceIte, SI.den, SL.den, q0, q1, q2, q3, q4, q8, q9, ql, Int.toNat_zero, List.drop_zero, Int.zero_add]
      have y8 : y.l 8 = ((x.l 8).set 0 (bitsDen 1 .u64 (IntKind.u64.wrap (IntKind.u32.wrap (IntKind.u32.wrap (((x.l 8).getD 0 0).fdiv 4294967296) + 1) * 4294967296)) (IntKind.u32.wrap ((x.l 8).getD (IntKind.u32.wrap ((x.l 8).getD 0 0)).toNat 0)))) := by rw [← hy]; simp only [Mt.vals, lkp_cons, lkp_nil, Nat.reduceEqDiff, reduceIte, SI.den, SL.den, q0, q1, q2, q3, q4, q8, q9, ql, Int.toNat_zero, List.drop_zero, Int.zero_add]
      have y9 : y.l 9 = x.l 9 := by rw [← hy]; simp only [Mt.vals, lkp_cons, lkp_nil, Nat.reduceEqDiff, reduceIte, SI.den, SL.den, q0, q1, q2, q3, q4, q8, q9, ql, Int.toNat_zero, List.drop_zero, Int.zero_add]
      have y16 : y.i 16 = 0 := by rw [← hy]; simp only [Mt.vals, lkp_cons, lkp_nil, Nat.reduceEqDiff, reduceIte, SI.den, SL.den, q0, q1, q2, q3, q4, q8, q9, ql, Int.toNat_zero, List.drop_zero, Int.zero_add]
      have y17 : y.i 17 = 1 := by rw [← hy]; simp only [Mt.vals, lkp_cons, lkp_nil, Nat.reduceEqDiff, reduceIte, SI.den, SL.den, q0, q1, q2, q3, q4, q8, q9, ql, Int.toNat_zero, List.drop_zero, Int.zero_add]
      have y18 : y.i 18 = ν2.i zLwAaT9 := by rw [← hy]; simp only [Mt.vals, lkp_cons, lkp_nil, Nat.reduceEqDiff, reduceIte, SI.den, SL.den, q0, q1, q2, q3, q4, q8, q9, ql, Int.toNat_zero, List.drop_zero, Int.zero_add]
      have y19 : y.i 19 = ν2.i zLwAaT9 := by rw [← hy]; simp only [Mt.vals, lkp_cons, lkp_nil, Nat.reduceEqDiff, reduceIte, SI.den, SL.den, q0, q1, q2, q3, q4, q8, q9, ql, Int.toNat_zero, List.drop_zero, Int.zero_add]
      have y20 : y.l 20 = [(x.l 9).getD (x.i 2 - 1).toNat 0] := by rw [← hy]; simp only [Mt.vals, lkp_cons, lkp_nil, Nat.reduceEqDiff, reduceIte, SI.den, SL.den, q0, q1, q2, q3, q4, q8, q9, ql, Int.toNat_zero, List.drop_zero, Int.zero_add]
    )
    · exact J.taken F h _ (by omega) (by omega) (by rw [y1, J.o]) y2 y3 y4 y8 y9 y16 (by simpa using y17) (by rw [y20, J.o, Int.zero_add]; rfl) (by omega) (by omega)
    · show mA1 ν y < (ν.l 0).length + 1
      unfold mA1
      omega

theorem cA0_2 (hI : ν.I = inM) (F : FA ν) (rf : RF nAa ν x ν2) (hi : 0 < (ν.l 0).length) (J : JP ν x []) (h : 1 ≤ x.i 2) : ∀ t ∈ a0_2, pcDen ν2 t.pc → GA ν ν2 ((ν.l 0).length + 1) t := by
  have q0 : ν2.i (nAa + 0) = x.i 0 := rf.i 0 (by decide)
  have q1 : ν2.i (nAa + 1) = 0 := (rf.i 1 (by decide)).trans J.o
  have q2 : ν2.i (nAa + 2) = x.i 2 := rf.i 2 (by decide)
  have q3 : ν2.i (nAa + 3) = x.i 3 := rf.i 3 (by decide)
  have q4 : ν2.i (nAa + 4) = x.i 4 := rf.i 4 (by decide)
  have q8 : ν2.l (nAa + 8) = x.l 8 := rf.l 8 (by decide)
  have q9 : ν2.l (nAa + 9) = x.l 9 := rf.l 9 (by decide)
  have ql : ν2.l 0 = ν.l 0 := rf.lo 0 (by decide)
  intro t ht hpc
  simp only [a0_2, List.mem_cons, List.not_mem_nil, or_false] at ht
  rcases ht with rfl | rfl
  · have c := pcAt hpc 1 rfl
    simp only [SB.den] at c
    simp only [SI.den, SL.den, q0, q1, q2, q3, q4, q8, q9, ql, Int.toNat_zero, Int.zero_add] at c
    have b := J.low_full h
    rw [b.1, wrapU, Int.emod_eq_of_lt (by omega) (by have := F.n2; omega)] at c
    simp at c
  · have c := lt_den (pcAt hpc 1 rfl)
    simp only [SI.den, Bool.false_eq_true, iff_false] at c
    refine ⟨rfl, ?_, ?_, by constructor <;> simp⟩ <;> generalize hy : Mt.vals _ (ghL []) ν2 = y
    all_goals (
      have y0 : y.i 0 = 1 := by rw [← hy]; simp only [Mt.vals, lkp_cons, lkp_nil, Nat.reduceEqDiff, reduceIte, SI.den, SL.den, q0, q1, q2, q3, q4, q8, q9, ql, Int.toNat_zero, List.drop_zero, Int.zero_add]
      have y1 : y.i 1 = 0 := by rw [← hy]; simp only [Mt.vals, lkp_cons, lkp_nil, Nat.reduceEqDiff, reduceIte, SI.den, SL.den, q0, q1, q2, q3, q4, q8, q9, ql, Int.toNat_zero, List.drop_zero, Int.zero_add]
      have y2 : y.i 2 = x.i 2 - 1 := by rw [← hy]; simp only [Mt.vals, lkp_cons, lkp_nil, Nat.reduceEqDiff, reduceIte, SI.den, SL.den, q0, q1, q2, q3, q4, q8, q9, ql, Int.toNat_zero, List.drop_zero, Int.zero_add]
      have y3 : y.i 3 = x.i 3 := by rw [← hy]; simp only [Mt.vals, lkp_cons, lkp_nil, Nat.reduceEqDiff, reduceIte, SI.den, SL.den, q0, q1, q2, q3, q4, q8, q9, ql, Int.toNat_zero, List.drop_zero, Int.zero_add]
      have y4 : y.i 4 = x.i 4 := by rw [← hy]; simp only [Mt.vals, lkp_cons, lkp_nil, Nat.reduceEqDiff, reduceIte, SI.den, SL.den, q0, q1, q2, q3, q4, q8, q9, ql, Int.toNat_zero, List.drop_zero, Int.zero_add]
      have y8 : y.l 8 = ((x.l 8).set 0 (bitsDen 1 .u64 (IntKind.u64.wrap (IntKind.u32.wrap (IntKind.u32.wrap (((x.l 8).getD 0 0).fdiv 4294967296) + 1) * 4294967296)) (IntKind.u32.wrap ((x.l 8).getD (IntKind.u32.wrap ((x.l 8).getD 0 0)).toNat 0)))) := by rw [← hy]; simp only [Mt.vals, lkp_cons, lkp_nil, Nat.reduceEqDiff, reduceIte, SI.den, SL.den, q0, q1, q2, q3, q4, q8, q9, ql, Int.toNat_zero, List.drop_zero, Int.zero_add]
      have y9 : y.l 9 = x.l 9 := by rw [← hy]; simp only [Mt.vals, lkp_cons, lkp_nil, Nat.reduceEqDiff, reduceIte, SI.den, SL.den, q0, q1, q2, q3, q4, q8, q9, ql, Int.toNat_zero, List.drop_zero, Int.zero_add]
      have y16 : y.i 16 = 0 := by rw [← hy]; simp only [Mt.vals, lkp_cons, lkp_nil, Nat.reduceEqDiff, reduceIte, SI.den, SL.den, q0, q1, q2, q3, q4, q8, q9, ql, Int.toNat_zero, List.drop_zero, Int.zero_add]
      have y17 : y.i 17 = 1 := by rw [← hy]; simp only [Mt.vals, lkp_cons, lkp_nil, Nat.reduceEqDiff, reduceIte, SI.den, SL.den, q0, q1, q2, q3, q4, q8, q9, ql, Int.toNat_zero, List.drop_zero, Int.zero_add]
      have y18 : y.i 18 = ν2.i zLwAaT9 := by rw [← hy]; simp only [Mt.vals, lkp_cons, lkp_nil, Nat.reduceEqDiff, reduceIte, SI.den, SL.den, q0, q1, q2, q3, q4, q8, q9, ql, Int.toNat_zero, List.drop_zero, Int.zero_add]
      have y19 : y.i 19 = ν2.i zLwAaT9 := by rw [← hy]; simp only [Mt.vals, lkp_cons, lkp_nil, Nat.reduceEqDiff, reduceIte, SI.den, SL.den, q0, q1, q2, q3, q4, q8, q9, ql, Int.toNat_zero, List.drop_zero, Int.zero_add]
      have y20 : y.l 20 = [(x.l 9).getD (x.i 2 - 1).toNat 0] := by rw [← hy]; simp only [Mt.vals, lkp_cons, lkp_nil, Nat.reduceEqDiff, reduceIte, SI.den, SL.den, q0, q1, q2, q3, q4, q8, q9, ql, Int.toNat_zero, List.drop_zero, Int.zero_add]
    )
    · exact J.taken F h _ (by omega) (by omega) (by rw [y1, J.o]) y2 y3 y4 y8 y9 y16 (by simpa using y17) (by rw [y20, J.o, Int.zero_add]; rfl) (by omega) (by omega)
    · show mA1 ν y < (ν.l 0).length + 1
      unfold mA1
      omega

theorem cA1_1 (hI : ν.I = inM) (F : FA ν) (rf : RF nAa ν x ν2) (hi : x.i 0 < (ν.l 0).length) (J : JQ ν x) : ∀ t ∈ a1_1, pcDen ν2 t.pc → GA ν ν2 (mA1 ν x) t := by
  have q0 : ν2.i (nAa + 0) = x.i 0 := rf.i 0 (by decide)
  have q1 : ν2.i (nAa + 1) = 0 := (rf.i 1 (by decide)).trans J.p.o
  have q2 : ν2.i (nAa + 2) = x.i 2 := rf.i 2 (by decide)
  have q3 : ν2.i (nAa + 3) = x.i 3 := rf.i 3 (by decide)
  have q4 : ν2.i (nAa + 4) = x.i 4 := rf.i 4 (by decide)
  have q8 : ν2.l (nAa + 8) = x.l 8 := rf.l 8 (by decide)
  have q9 : ν2.l (nAa + 9) = x.l 9 := rf.l 9 (by decide)
  have ql : ν2.l 0 = ν.l 0 := rf.lo 0 (by decide)
  have q16 : ν2.i (nAa + 16) = 0 := (rf.i 16 (by decide)).trans J.o
  have q17 : ν2.i (nAa + 17) = x.i 17 := rf.i 17 (by decide)
  have q18 : ν2.i (nAa + 18) = x.i 18 := rf.i 18 (by decide)
  have q19 : ν2.i (nAa + 19) = x.i 19 := rf.i 19 (by decide)
  have q20 : ν2.l (nAa + 20) = x.l 20 := rf.l 20 (by decide)
  have i0 := J.i0
  have hH : (((x.l 20).take (x.i 17).toNat).length : Int) = x.i 17 := by have := J.n0; have := J.n1; rw [List.length_take]; omega
  intro t ht hpc
  simp only [a1_1, List.mem_cons, List.not_mem_nil, or_false] at ht
  subst ht
  · refine ⟨rfl, ?_, ?_, by constructor <;> simp⟩ <;> generalize hy : Mt.vals _ (ghL []) ν2 = y
    all_goals (
      have y0 : y.i 0 = x.i 0 + 1 := by rw [← hy]; simp only [Mt.vals, lkp_cons, lkp_nil, Nat.reduceEqDiff, reduceIte, SI.den, SL.den, q0, q1, q2, q3, q4, q8, q9, ql, q16, q17, q18, q19, q20, Int.toNat_zero, List.drop_zero, Int.zero_add]
      have y1 : y.i 1 = 0 := by rw [← hy]; simp only [Mt.vals, lkp_cons, lkp_nil, Nat.reduceEqDiff, reduceIte, SI.den, SL.den, q0, q1, q2, q3, q4, q8, q9, ql, q16, q17, q18, q19, q20, Int.toNat_zero, List.drop_zero, Int.zero_add]
      have y2 : y.i 2 = x.i 2 := by rw [← hy]; simp only [Mt.vals, lkp_cons, lkp_nil, Nat.reduceEqDiff, reduceIte, SI.den, SL.den, q0, q1, q2, q3, q4, q8, q9, ql, q16, q17, q18, q19, q20, Int.toNat_zero, List.drop_zero, Int.zero_add]
      have y3 : y.i 3 = x.i 3 := by rw [← hy]; simp only [Mt.vals, lkp_cons, lkp_nil, Nat.reduceEqDiff, reduceIte, SI.den, SL.den, q0, q1, q2, q3, q4, q8, q9, ql, q16, q17, q18, q19, q20, Int.toNat_zero, List.drop_zero, Int.zero_add]
      have y4 : y.i 4 = x.i 4 := by rw [← hy]; simp only [Mt.vals, lkp_cons, lkp_nil, Nat.reduceEqDiff, reduceIte, SI.den, SL.den, q0, q1, q2, q3, q4, q8, q9, ql, q16, q17, q18, q19, q20, Int.toNat_zero, List.drop_zero, Int.zero_add]
      have y8 : y.l 8 = x.l 8 := by rw [← hy]; simp only [Mt.vals, lkp_cons, lkp_nil, Nat.reduceEqDiff, reduceIte, SI.den, SL.den, q0, q1, q2, q3, q4, q8, q9, ql, q16, q17, q18, q19, q20, Int.toNat_zero, List.drop_zero, Int.zero_add]
      have y9 : y.l 9 = x.l 9 := by rw [← hy]; simp only [Mt.vals, lkp_cons, lkp_nil, Nat.reduceEqDiff, reduceIte, SI.den, SL.den, q0, q1, q2, q3, q4, q8, q9, ql, q16, q17, q18, q19, q20, Int.toNat_zero, List.drop_zero, Int.zero_add]
      have y16 : y.i 16 = 0 := by rw [← hy]; simp only [Mt.vals, lkp_cons, lkp_nil, Nat.reduceEqDiff, reduceIte, SI.den, SL.den, q0, q1, q2, q3, q4, q8, q9, ql, q16, q17, q18, q19, q20, Int.toNat_zero, List.drop_zero, Int.zero_add]
      have y17 : y.i 17 = x.i 17 := by rw [← hy]; simp only [Mt.vals, lkp_cons, lkp_nil, Nat.reduceEqDiff, reduceIte, SI.den, SL.den, q0, q1, q2, q3, q4, q8, q9, ql, q16, q17, q18, q19, q20, Int.toNat_zero, List.drop_zero, Int.zero_add]
      have y18 : y.i 18 = x.i 18 := by rw [← hy]; simp only [Mt.vals, lkp_cons, lkp_nil, Nat.reduceEqDiff, reduceIte, SI.den, SL.den, q0, q1, q2, q3, q4, q8, q9, ql, q16, q17, q18, q19, q20, Int.toNat_zero, List.drop_zero, Int.zero_add]
      have y19 : y.i 19 = x.i 19 := by rw [← hy]; simp only [Mt.vals, lkp_cons, lkp_nil, Nat.reduceEqDiff, reduceIte, SI.den, SL.den, q0, q1, q2, q3, q4, q8, q9, ql, q16, q17, q18, q19, q20, Int.toNat_zero, List.drop_zero, Int.zero_add]
      have y20 : y.l 20 = x.l 20 := by rw [← hy]; simp only [Mt.vals, lkp_cons, lkp_nil, Nat.reduceEqDiff, reduceIte, SI.den, SL.den, q0, q1, q2, q3, q4, q8, q9, ql, q16, q17, q18, q19, q20, Int.toNat_zero, List.drop_zero, Int.zero_add]
    )
    · exact J.idle hi y0 (by rw [y1, J.p.o]) y2 y3 y4 y8 y9 (by rw [y16, J.o]) y17 y18 y19 y20
    · show mA1 ν y < mA1 ν x
      unfold mA1
      omega

theorem cA1_4 (hI : ν.I = inM) (F : FA ν) (rf : RF nAa ν x ν2) (hi : x.i 0 < (ν.l 0).length) (J : JQ ν x) : ∀ t ∈ a1_4, pcDen ν2 t.pc → GA ν ν2 (mA1 ν x) t := by
  have q0 : ν2.i (nAa + 0) = x.i 0 := rf.i 0 (by decide)
  have q1 : ν2.i (nAa + 1) = 0 := (rf.i 1 (by decide)).trans J.p.o
  have q2 : ν2.i (nAa + 2) = x.i 2 := rf.i 2 (by decide)
  have q3 : ν2.i (nAa + 3) = x.i 3 := rf.i 3 (by decide)
  have q4 : ν2.i (nAa + 4) = x.i 4 := rf.i 4 (by decide)
  have q8 : ν2.l (nAa + 8) = x.l 8 := rf.l 8 (by decide)
  have q9 : ν2.l (nAa + 9) = x.l 9 := rf.l 9 (by decide)
  have ql : ν2.l 0 = ν.l 0 := rf.lo 0 (by decide)
  have q16 : ν2.i (nAa + 16) = 0 := (rf.i 16 (by decide)).trans J.o
  have q17 : ν2.i (nAa + 17) = x.i 17 := rf.i 17 (by decide)
  have q18 : ν2.i (nAa + 18) = x.i 18 := rf.i 18 (by decide)
  have q19 : ν2.i (nAa + 19) = x.i 19 := rf.i 19 (by decide)
  have q20 : ν2.l (nAa + 20) = x.l 20 := rf.l 20 (by decide)
  have i0 := J.i0
  have hH : (((x.l 20).take (x.i 17).toNat).length : Int) = x.i 17 := by have := J.n0; have := J.n1; rw [List.length_take]; omega
  intro t ht hpc
  simp only [a1_4, List.mem_cons, List.not_mem_nil, or_false] at ht
  subst ht
  · refine ⟨rfl, ?_, ?_, by constructor <;> simp⟩ <;> generalize hy : Mt.vals _ (ghL []) ν2 = y
    all_goals (
      have y0 : y.i 0 = x.i 0 + 1 := by rw [← hy]; simp only [Mt.vals, lkp_cons, lkp_nil, Nat.reduceEqDiff, reduceIte, SI.den, SL.den, q0, q1, q2, q3, q4, q8, q9, ql, q16, q17, q18, q19, q20, Int.toNat_zero, List.drop_zero, Int.zero_add]
      have y1 : y.i 1 = 0 := by rw [← hy]; simp only [Mt.vals, lkp_cons, lkp_nil, Nat.reduceEqDiff, reduceIte, SI.den, SL.den, q0, q1, q2, q3, q4, q8, q9, ql, q16, q17, q18, q19, q20, Int.toNat_zero, List.drop_zero, Int.zero_add]
      have y2 : y.i 2 = x.i 2 := by rw [← hy]; simp only [Mt.vals, lkp_cons, lkp_nil, Nat.reduceEqDiff, reduceIte, SI.den, SL.den, q0, q1, q2, q3, q4, q8, q9, ql, q16, q17, q18, q19, q20, Int.toNat_zero, List.drop_zero, Int.zero_add]
      have y3 : y.i 3 = x.i 3 := by rw [← hy]; simp only [Mt.vals, lkp_cons, lkp_nil, Nat.reduceEqDiff, reduceIte, SI.den, SL.den, q0, q1, q2, q3, q4, q8, q9, ql, q16, q17, q18, q19, q20, Int.toNat_zero, List.drop_zero, Int.zero_add]
      have y4 : y.i 4 = x.i 4 := by rw [← hy]; simp only [Mt.vals, lkp_cons, lkp_nil, Nat.reduceEqDiff, reduceIte, SI.den, SL.den, q0, q1, q2, q3, q4, q8, q9, ql, q16, q17, q18, q19, q20, Int.toNat_zero, List.drop_zero, Int.zero_add]
      have y8 : y.l 8 = x.l 8 := by rw [← hy]; simp only [Mt.vals, lkp_cons, lkp_nil, Nat.reduceEqDiff, reduceIte, SI.den, SL.den, q0, q1, q2, q3, q4, q8, q9, ql, q16, q17, q18, q19, q20, Int.toNat_zero, List.drop_zero, Int.zero_add]
      have y9 : y.l 9 = x.l 9 := by rw [← hy]; simp only [Mt.vals, lkp_cons, lkp_nil, Nat.reduceEqDiff, reduceIte, SI.den, SL.den, q0, q1, q2, q3, q4, q8, q9, ql, q16, q17, q18, q19, q20, Int.toNat_zero, List.drop_zero, Int.zero_add]
      have y16 : y.i 16 = 0 := by rw [← hy]; simp only [Mt.vals, lkp_cons, lkp_nil, Nat.reduceEqDiff, reduceIte, SI.den, SL.den, q0, q1, q2, q3, q4, q8, q9, ql, q16, q17, q18, q19, q20, Int.toNat_zero, List.drop_zero, Int.zero_add]
      have y17 : y.i 17 = x.i 17 := by rw [← hy]; simp only [Mt.vals, lkp_cons, lkp_nil, Nat.reduceEqDiff, reduceIte, SI.den, SL.den, q0, q1, q2, q3, q4, q8, q9, ql, q16, q17, q18, q19, q20, Int.toNat_zero, List.drop_zero, Int.zero_add]
      have y18 : y.i 18 = x.i 18 := by rw [← hy]; simp only [Mt.vals, lkp_cons, lkp_nil, Nat.reduceEqDiff, reduceIte, SI.den, SL.den, q0, q1, q2, q3, q4, q8, q9, ql, q16, q17, q18, q19, q20, Int.toNat_zero, List.drop_zero, Int.zero_add]
      have y19 : y.i 19 = x.i 19 := by rw [← hy]; simp only [Mt.vals, lkp_cons, lkp_nil, Nat.reduceEqDiff, reduceIte, SI.den, SL.den, q0, q1, q2, q3, q4, q8, q9, ql, q16, q17, q18, q19, q20, Int.toNat_zero, List.drop_zero, Int.zero_add]
      have y20 : y.l 20 = x.l 20 := by rw [← hy]; simp only [Mt.vals, lkp_cons, lkp_nil, Nat.reduceEqDiff, reduceIte, SI.den, SL.den, q0, q1, q2, q3, q4, q8, q9, ql, q16, q17, q18, q19, q20, Int.toNat_zero, List.drop_zero, Int.zero_add]
    )
    · exact J.idle hi y0 (by rw [y1, J.p.o]) y2 y3 y4 y8 y9 (by rw [y16, J.o]) y17 y18 y19 y20
    · show mA1 ν y < mA1 ν x
      unfold mA1
      omega

theorem cA1_2 (hI : ν.I = inM) (F : FA ν) (rf : RF nAa ν x ν2) (hi : x.i 0 < (ν.l 0).length) (J : JQ ν x) (h : 1 ≤ x.i 2) : ∀ t ∈ a1_2, pcDen ν2 t.pc → GA ν ν2 (mA1 ν x) t := by
  have q0 : ν2.i (nAa + 0) = x.i 0 := rf.i 0 (by decide)
  have q1 : ν2.i (nAa + 1) = 0 := (rf.i 1 (by decide)).trans J.p.o
  have q2 : ν2.i (nAa + 2) = x.i 2 := rf.i 2 (by decide)
  have q3 : ν2.i (nAa + 3) = x.i 3 := rf.i 3 (by decide)
  have q4 : ν2.i (nAa + 4) = x.i 4 := rf.i 4 (by decide)
  have q8 : ν2.l (nAa + 8) = x.l 8 := rf.l 8 (by decide)
  have q9 : ν2.l (nAa + 9) = x.l 9 := rf.l 9 (by decide)
  have ql : ν2.l 0 = ν.l 0 := rf.lo 0 (by decide)
  have q16 : ν2.i (nAa + 16) = 0 := (rf.i 16 (by decide)).trans J.o
  have q17 : ν2.i (nAa + 17) = x.i 17 := rf.i 17 (by decide)
  have q18 : ν2.i (nAa + 18) = x.i 18 := rf.i 18 (by decide)
  have q19 : ν2.i (nAa + 19) = x.i 19 := rf.i 19 (by decide)
  have q20 : ν2.l (nAa + 20) = x.l 20 := rf.l 20 (by decide)
  have i0 := J.i0
  have hH : (((x.l 20).take (x.i 17).toNat).length : Int) = x.i 17 := by have := J.n0; have := J.n1; rw [List.length_take]; omega
  intro t ht hpc
  simp only [a1_2, List.mem_cons, List.not_mem_nil, or_false] at ht
  rcases ht with rfl | rfl
  · have c := pcAt hpc 2 rfl
    simp only [SB.den] at c
    simp only [SI.den, SL.den, q0, q1, q2, q3, q4, q8, q9, ql, q16, q17, q18, q19, q20, Int.toNat_zero, Int.zero_add] at c
    have b := J.p.low_full h
    rw [b.1, wrapU, Int.emod_eq_of_lt (by omega) (by have := F.n2; omega)] at c
    simp at c
  · have c := lt_den (pcAt hpc 1 rfl)
    simp only [SI.den, SL.den, q0, q1, q2, q3, q4, q8, q9, ql, q16, q17, q18, q19, q20, Int.toNat_zero, List.drop_zero, Int.zero_add, hH, Bool.false_eq_true, iff_false] at c
    refine ⟨rfl, ?_, ?_, by constructor <;> simp⟩ <;> generalize hy : Mt.vals _ (ghL []) ν2 = y
    all_goals (
      have y0 : y.i 0 = x.i 0 + 1 := by rw [← hy]; simp only [Mt.vals, lkp_cons, lkp_nil, Nat.reduceEqDiff, reduceIte, SI.den, SL.den, q0, q1, q2, q3, q4, q8, q9, ql, q16, q17, q18, q19, q20, Int.toNat_zero, List.drop_zero, Int.zero_add]
      have y1 : y.i 1 = 0 := by rw [← hy]; simp only [Mt.vals, lkp_cons, lkp_nil, Nat.reduceEqDiff, reduceIte, SI.den, SL.den, q0, q1, q2, q3, q4, q8, q9, ql, q16, q17, q18, q19, q20, Int.toNat_zero, List.drop_zero, Int.zero_add]
      have y2 : y.i 2 = x.i 2 - 1 := by rw [← hy]; simp only [Mt.vals, lkp_cons, lkp_nil, Nat.reduceEqDiff, reduceIte, SI.den, SL.den, q0, q1, q2, q3, q4, q8, q9, ql, q16, q17, q18, q19, q20, Int.toNat_zero, List.drop_zero, Int.zero_add]
      have y3 : y.i 3 = x.i 3 := by rw [← hy]; simp only [Mt.vals, lkp_cons, lkp_nil, Nat.reduceEqDiff, reduceIte, SI.den, SL.den, q0, q1, q2, q3, q4, q8, q9, ql, q16, q17, q18, q19, q20, Int.toNat_zero, List.drop_zero, Int.zero_add]
      have y4 : y.i 4 = x.i 4 := by rw [← hy]; simp only [Mt.vals, lkp_cons, lkp_nil, Nat.reduceEqDiff, reduceIte, SI.den, SL.den, q0, q1, q2, q3, q4, q8, q9, ql, q16, q17, q18, q19, q20, Int.toNat_zero, List.drop_zero, Int.zero_add]
      have y8 : y.l 8 = ((x.l 8).set 0 (bitsDen 1 .u64 (IntKind.u64.wrap (IntKind.u32.wrap (IntKind.u32.wrap (((x.l 8).getD 0 0).fdiv 4294967296) + 1) * 4294967296)) (IntKind.u32.wrap ((x.l 8).getD (IntKind.u32.wrap ((x.l 8).getD 0 0)).toNat 0)))) := by rw [← hy]; simp only [Mt.vals, lkp_cons, lkp_nil, Nat.reduceEqDiff, reduceIte, SI.den, SL.den, q0, q1, q2, q3, q4, q8, q9, ql, q16, q17, q18, q19, q20, Int.toNat_zero, List.drop_zero, Int.zero_add]
      have y9 : y.l 9 = x.l 9 := by rw [← hy]; simp only [Mt.vals, lkp_cons, lkp_nil, Nat.reduceEqDiff, reduceIte, SI.den, SL.den, q0, q1, q2, q3, q4, q8, q9, ql, q16, q17, q18, q19, q20, Int.toNat_zero, List.drop_zero, Int.zero_add]
      have y16 : y.i 16 = 0 := by rw [← hy]; simp only [Mt.vals, lkp_cons, lkp_nil, Nat.reduceEqDiff, reduceIte, SI.den, SL.den, q0, q1, q2, q3, q4, q8, q9, ql, q16, q17, q18, q19, q20, Int.toNat_zero, List.drop_zero, Int.zero_add]
      have y17 : y.i 17 = x.i 17 + 1 := by rw [← hy]; simp only [Mt.vals, lkp_cons, lkp_nil, Nat.reduceEqDiff, reduceIte, SI.den, SL.den, q0, q1, q2, q3, q4, q8, q9, ql, q16, q17, q18, q19, q20, Int.toNat_zero, List.drop_zero, Int.zero_add]
      have y18 : y.i 18 = ν2.i zLwAaT9 := by rw [← hy]; simp only [Mt.vals, lkp_cons, lkp_nil, Nat.reduceEqDiff, reduceIte, SI.den, SL.den, q0, q1, q2, q3, q4, q8, q9, ql, q16, q17, q18, q19, q20, Int.toNat_zero, List.drop_zero, Int.zero_add]
      have y19 : y.i 19 = ν2.i zLwAaT9 := by rw [← hy]; simp only [Mt.vals, lkp_cons, lkp_nil, Nat.reduceEqDiff, reduceIte, SI.den, SL.den, q0, q1, q2, q3, q4, q8, q9, ql, q16, q17, q18, q19, q20, Int.toNat_zero, List.drop_zero, Int.zero_add]
      have y20 : y.l 20 = (x.l 20).take (x.i 17).toNat ++ [(x.l 9).getD (x.i 2 - 1).toNat 0] := by rw [← hy]; simp only [Mt.vals, lkp_cons, lkp_nil, Nat.reduceEqDiff, reduceIte, SI.den, SL.den, q0, q1, q2, q3, q4, q8, q9, ql, q16, q17, q18, q19, q20, Int.toNat_zero, List.drop_zero, Int.zero_add]
    )
    · exact J.p.taken F h _ (by omega) (by omega) (by rw [y1, J.p.o]) y2 y3 y4 y8 y9 y16 (by rw [hH]; exact y17) (by rw [y20, J.p.o, Int.zero_add]) (by omega) (by have := J.room; omega)
    · show mA1 ν y < mA1 ν x
      unfold mA1
      omega

theorem cA1_3 (hI : ν.I = inM) (F : FA ν) (rf : RF nAa ν x ν2) (hi : x.i 0 < (ν.l 0).length) (J : JQ ν x) (h : 1 ≤ x.i 2) (hr : x.i 17 + 1 ≤ x.i 18) : ∀ t ∈ a1_3, pcDen ν2 t.pc → GA ν ν2 (mA1 ν x) t := by
  have q0 : ν2.i (nAa + 0) = x.i 0 := rf.i 0 (by decide)
  have q1 : ν2.i (nAa + 1) = 0 := (rf.i 1 (by decide)).trans J.p.o
  have q2 : ν2.i (nAa + 2) = x.i 2 := rf.i 2 (by decide)
  have q3 : ν2.i (nAa + 3) = x.i 3 := rf.i 3 (by decide)
  have q4 : ν2.i (nAa + 4) = x.i 4 := rf.i 4 (by decide)
  have q8 : ν2.l (nAa + 8) = x.l 8 := rf.l 8 (by decide)
  have q9 : ν2.l (nAa + 9) = x.l 9 := rf.l 9 (by decide)
  have ql : ν2.l 0 = ν.l 0 := rf.lo 0 (by decide)
  have q16 : ν2.i (nAa + 16) = 0 := (rf.i 16 (by decide)).trans J.o
  have q17 : ν2.i (nAa + 17) = x.i 17 := rf.i 17 (by decide)
  have q18 : ν2.i (nAa + 18) = x.i 18 := rf.i 18 (by decide)
  have q19 : ν2.i (nAa + 19) = x.i 19 := rf.i 19 (by decide)
  have q20 : ν2.l (nAa + 20) = x.l 20 := rf.l 20 (by decide)
  have i0 := J.i0
  have hH : (((x.l 20).take (x.i 17).toNat).length : Int) = x.i 17 := by have := J.n0; have := J.n1; rw [List.length_take]; omega
  intro t ht hpc
  simp only [a1_3, List.mem_cons, List.not_mem_nil, or_false] at ht
  rcases ht with rfl | rfl
  · have c := pcAt hpc 2 rfl
    simp only [SB.den] at c
    simp only [SI.den, SL.den, q0, q1, q2, q3, q4, q8, q9, ql, q16, q17, q18, q19, q20, Int.toNat_zero, Int.zero_add] at c
    have b := J.p.low_full h
    rw [b.1, wrapU, Int.emod_eq_of_lt (by omega) (by have := F.n2; omega)] at c
    simp at c
  · refine ⟨rfl, ?_, ?_, by constructor <;> simp⟩ <;> generalize hy : Mt.vals _ (ghL []) ν2 = y
    all_goals (
      have y0 : y.i 0 = x.i 0 + 1 := by rw [← hy]; simp only [Mt.vals, lkp_cons, lkp_nil, Nat.reduceEqDiff, reduceIte, SI.den, SL.den, q0, q1, q2, q3, q4, q8, q9, ql, q16, q17, q18, q19, q20, Int.toNat_zero, List.drop_zero, Int.zero_add]
      have y1 : y.i 1 = 0 := by rw [← hy]; simp only [Mt.vals, lkp_cons, lkp_nil, Nat.reduceEqDiff, reduceIte, SI.den, SL.den, q0, q1, q2, q3, q4, q8, q9, ql, q16, q17, q18, q19, q20, Int.toNat_zero, List.drop_zero, Int.zero_add]
      have y2 : y.i 2 = x.i 2 - 1 := by rw [← hy]; simp only [Mt.vals, lkp_cons, lkp_nil, Nat.reduceEqDiff, reduceIte, SI.den, SL.den, q0, q1, q2, q3, q4, q8, q9, ql, q16, q17, q18, q19, q20, Int.toNat_zero, List.drop_zero, Int.zero_add]
      have y3 : y.i 3 = x.i 3 := by rw [← hy]; simp only [Mt.vals, lkp_cons, lkp_nil, Nat.reduceEqDiff, reduceIte, SI.den, SL.den, q0, q1, q2, q3, q4, q8, q9, ql, q16, q17, q18, q19, q20, Int.toNat_zero, List.drop_zero, Int.zero_add]
      have y4 : y.i 4 = x.i 4 := by rw [← hy]; simp only [Mt.vals, lkp_cons, lkp_nil, Nat.reduceEqDiff, reduceIte, SI.den, SL.den, q0, q1, q2, q3, q4, q8, q9, ql, q16, q17, q18, q19, q20, Int.toNat_zero, List.drop_zero, Int.zero_add]
      have y8 : y.l 8 = ((x.l 8).set 0 (bitsDen 1 .u64 (IntKind.u64.wrap (IntKind.u32.wrap (IntKind.u32.wrap (((x.l 8).getD 0 0).fdiv 4294967296) + 1) * 4294967296)) (IntKind.u32.wrap ((x.l 8).getD (IntKind.u32.wrap ((x.l 8).getD 0 0)).toNat 0)))) := by rw [← hy]; simp only [Mt.vals, lkp_cons, lkp_nil, Nat.reduceEqDiff, reduceIte, SI.den, SL.den, q0, q1, q2, q3, q4, q8, q9, ql, q16, q17, q18, q19, q20, Int.toNat_zero, List.drop_zero, Int.zero_add]
      have y9 : y.l 9 = x.l 9 := by rw [← hy]; simp only [Mt.vals, lkp_cons, lkp_nil, Nat.reduceEqDiff, reduceIte, SI.den, SL.den, q0, q1, q2, q3, q4, q8, q9, ql, q16, q17, q18, q19, q20, Int.toNat_zero, List.drop_zero, Int.zero_add]
      have y16 : y.i 16 = 0 := by rw [← hy]; simp only [Mt.vals, lkp_cons, lkp_nil, Nat.reduceEqDiff, reduceIte, SI.den, SL.den, q0, q1, q2, q3, q4, q8, q9, ql, q16, q17, q18, q19, q20, Int.toNat_zero, List.drop_zero, Int.zero_add]
      have y17 : y.i 17 = x.i 17 + 1 := by rw [← hy]; simp only [Mt.vals, lkp_cons, lkp_nil, Nat.reduceEqDiff, reduceIte, SI.den, SL.den, q0, q1, q2, q3, q4, q8, q9, ql, q16, q17, q18, q19, q20, Int.toNat_zero, List.drop_zero, Int.zero_add]
      have y18 : y.i 18 = x.i 18 := by rw [← hy]; simp only [Mt.vals, lkp_cons, lkp_nil, Nat.reduceEqDiff, reduceIte, SI.den, SL.den, q0, q1, q2, q3, q4, q8, q9, ql, q16, q17, q18, q19, q20, Int.toNat_zero, List.drop_zero, Int.zero_add]
      have y19 : y.i 19 = x.i 19 := by rw [← hy]; simp only [Mt.vals, lkp_cons, lkp_nil, Nat.reduceEqDiff, reduceIte, SI.den, SL.den, q0, q1, q2, q3, q4, q8, q9, ql, q16, q17, q18, q19, q20, Int.toNat_zero, List.drop_zero, Int.zero_add]
      have y20 : y.l 20 = (x.l 20).take (x.i 17).toNat ++ [(x.l 9).getD (x.i 2 - 1).toNat 0] := by rw [← hy]; simp only [Mt.vals, lkp_cons, lkp_nil, Nat.reduceEqDiff, reduceIte, SI.den, SL.den, q0, q1, q2, q3, q4, q8, q9, ql, q16, q17, q18, q19, q20, Int.toNat_zero, List.drop_zero, Int.zero_add]
    )
    · exact J.p.taken F h _ (by omega) (by omega) (by rw [y1, J.p.o]) y2 y3 y4 y8 y9 y16 (by rw [hH]; exact y17) (by rw [y20, J.p.o, Int.zero_add]) (by omega) (by have := J.room; omega)
    · show mA1 ν y < mA1 ν x
      unfold mA1
      omega

theorem cA1_5 (hI : ν.I = inM) (F : FA ν) (rf : RF nAa ν x ν2) (hi : x.i 0 < (ν.l 0).length) (J : JQ ν x) (h : 1 ≤ x.i 2) : ∀ t ∈ a1_5, pcDen ν2 t.pc → GA ν ν2 (mA1 ν x) t := by
  have q0 : ν2.i (nAa + 0) = x.i 0 := rf.i 0 (by decide)
  have q1 : ν2.i (nAa + 1) = 0 := (rf.i 1 (by decide)).trans J.p.o
  have q2 : ν2.i (nAa + 2) = x.i 2 := rf.i 2 (by decide)
  have q3 : ν2.i (nAa + 3) = x.i 3 := rf.i 3 (by decide)
  have q4 : ν2.i (nAa + 4) = x.i 4 := rf.i 4 (by decide)
  have q8 : ν2.l (nAa + 8) = x.l 8 := rf.l 8 (by decide)
  have q9 : ν2.l (nAa + 9) = x.l 9 := rf.l 9 (by decide)
  have ql : ν2.l 0 = ν.l 0 := rf.lo 0 (by decide)
  have q16 : ν2.i (nAa + 16) = 0 := (rf.i 16 (by decide)).trans J.o
  have q17 : ν2.i (nAa + 17) = x.i 17 := rf.i 17 (by decide)
  have q18 : ν2.i (nAa + 18) = x.i 18 := rf.i 18 (by decide)
  have q19 : ν2.i (nAa + 19) = x.i 19 := rf.i 19 (by decide)
  have q20 : ν2.l (nAa + 20) = x.l 20 := rf.l 20 (by decide)
  have i0 := J.i0
  have hH : (((x.l 20).take (x.i 17).toNat).length : Int) = x.i 17 := by have := J.n0; have := J.n1; rw [List.length_take]; omega
  intro t ht hpc
  simp only [a1_5, List.mem_cons, List.not_mem_nil, or_false] at ht
  rcases ht with rfl | rfl
  · have c := pcAt hpc 2 rfl
    simp only [SB.den] at c
    simp only [SI.den, SL.den, q0, q1, q2, q3, q4, q8, q9, ql, q16, q17, q18, q19, q20, Int.toNat_zero, Int.zero_add] at c
    have b := J.p.low_full h
    rw [b.1, wrapU, Int.emod_eq_of_lt (by omega) (by have := F.n2; omega)] at c
    simp at c
  · have c := lt_den (pcAt hpc 1 rfl)
    simp only [SI.den, SL.den, q0, q1, q2, q3, q4, q8, q9, ql, q16, q17, q18, q19, q20, Int.toNat_zero, List.drop_zero, Int.zero_add, hH, Bool.false_eq_true, iff_false] at c
    refine ⟨rfl, ?_, ?_, by constructor <;> simp⟩ <;> generalize hy : Mt.vals _ (ghL []) ν2 = y
    all_goals (
      have y0 : y.i 0 = x.i 0 + 1 := by rw [← hy]; simp only [Mt.vals, lkp_cons, lkp_nil, Nat.reduceEqDiff, reduceIte, SI.den, SL.den, q0, q1, q2, q3, q4, q8, q9, ql, q16, q17, q18, q19, q20, Int.toNat_zero, List.drop_zero, Int.zero_add]
      have y1 : y.i 1 = 0 := by rw [← hy]; simp only [Mt.vals, lkp_cons, lkp_nil, Nat.reduceEqDiff, reduceIte, SI.den, SL.den, q0, q1, q2, q3, q4, q8, q9, ql, q16, q17, q18, q19, q20, Int.toNat_zero, List.drop_zero, Int.zero_add]
      have y2 : y.i 2 = x.i 2 - 1 := by rw [← hy]; simp only [Mt.vals, lkp_cons, lkp_nil, Nat.reduceEqDiff, reduceIte, SI.den, SL.den, q0, q1, q2, q3, q4, q8, q9, ql, q16, q17, q18, q19, q20, Int.toNat_zero, List.drop_zero, Int.zero_add]
      have y3 : y.i 3 = x.i 3 := by rw [← hy]; simp only [Mt.vals, lkp_cons, lkp_nil, Nat.reduceEqDiff, reduceIte, SI.den, SL.den, q0, q1, q2, q3, q4, q8, q9, ql, q16, q17, q18, q19, q20, Int.toNat_zero, List.drop_zero, Int.zero_add]
      have y4 : y.i 4 = x.i 4 := by rw [← hy]; simp only [Mt.vals, lkp_cons, lkp_nil, Nat.reduceEqDiff, reduceIte, SI.den, SL.den, q0, q1, q2, q3, q4, q8, q9, ql, q16, q17, q18, q19, q20, Int.toNat_zero, List.drop_zero, Int.zero_add]
      have y8 : y.l 8 = ((x.l 8).set 0 (bitsDen 1 .u64 (IntKind.u64.wrap (IntKind.u32.wrap (IntKind.u32.wrap (((x.l 8).getD 0 0).fdiv 4294967296) + 1) * 4294967296)) (IntKind.u32.wrap ((x.l 8).getD (IntKind.u32.wrap ((x.l 8).getD 0 0)).toNat 0)))) := by rw [← hy]; simp only [Mt.vals, lkp_cons, lkp_nil, Nat.reduceEqDiff, reduceIte, SI.den, SL.den, q0, q1, q2, q3, q4, q8, q9, ql, q16, q17, q18, q19, q20, Int.toNat_zero, List.drop_zero, Int.zero_add]
      have y9 : y.l 9 = x.l 9 := by rw [← hy]; simp only [Mt.vals, lkp_cons, lkp_nil, Nat.reduceEqDiff, reduceIte, SI.den, SL.den, q0, q1, q2, q3, q4, q8, q9, ql, q16, q17, q18, q19, q20, Int.toNat_zero, List.drop_zero, Int.zero_add]
      have y16 : y.i 16 = 0 := by rw [← hy]; simp only [Mt.vals, lkp_cons, lkp_nil, Nat.reduceEqDiff, reduceIte, SI.den, SL.den, q0, q1, q2, q3, q4, q8, q9, ql, q16, q17, q18, q19, q20, Int.toNat_zero, List.drop_zero, Int.zero_add]
      have y17 : y.i 17 = x.i 17 + 1 := by rw [← hy]; simp only [Mt.vals, lkp_cons, lkp_nil, Nat.reduceEqDiff, reduceIte, SI.den, SL.den, q0, q1, q2, q3, q4, q8, q9, ql, q16, q17, q18, q19, q20, Int.toNat_zero, List.drop_zero, Int.zero_add]
      have y18 : y.i 18 = ν2.i zLwAaT9 := by rw [← hy]; simp only [Mt.vals, lkp_cons, lkp_nil, Nat.reduceEqDiff, reduceIte, SI.den, SL.den, q0, q1, q2, q3, q4, q8, q9, ql, q16, q17, q18, q19, q20, Int.toNat_zero, List.drop_zero, Int.zero_add]
      have y19 : y.i 19 = ν2.i zLwAaT9 := by rw [← hy]; simp only [Mt.vals, lkp_cons, lkp_nil, Nat.reduceEqDiff, reduceIte, SI.den, SL.den, q0, q1, q2, q3, q4, q8, q9, ql, q16, q17, q18, q19, q20, Int.toNat_zero, List.drop_zero, Int.zero_add]
      have y20 : y.l 20 = (x.l 20).take (x.i 17).toNat ++ [(x.l 9).getD (x.i 2 - 1).toNat 0] := by rw [← hy]; simp only [Mt.vals, lkp_cons, lkp_nil, Nat.reduceEqDiff, reduceIte, SI.den, SL.den, q0, q1, q2, q3, q4, q8, q9, ql, q16, q17, q18, q19, q20, Int.toNat_zero, List.drop_zero, Int.zero_add]
    )
    · exact J.p.taken F h _ (by omega) (by omega) (by rw [y1, J.p.o]) y2 y3 y4 y8 y9 y16 (by rw [hH]; exact y17) (by rw [y20, J.p.o, Int.zero_add]) (by omega) (by have := J.room; omega)
    · show mA1 ν y < mA1 ν x
      unfold mA1
      omega

theorem cA1_6 (hI : ν.I = inM) (F : FA ν) (rf : RF nAa ν x ν2) (hi : x.i 0 < (ν.l 0).length) (J : JQ ν x) (h : 1 ≤ x.i 2) (hr : x.i 17 + 1 ≤ x.i 18) : ∀ t ∈ a1_6, pcDen ν2 t.pc → GA ν ν2 (mA1 ν x) t := by
  have q0 : ν2.i (nAa + 0) = x.i 0 := rf.i 0 (by decide)
  have q1 : ν2.i (nAa + 1) = 0 := (rf.i 1 (by decide)).trans J.p.o
  have q2 : ν2.i (nAa + 2) = x.i 2 := rf.i 2 (by decide)
  have q3 : ν2.i (nAa + 3) = x.i 3 := rf.i 3 (by decide)
  have q4 : ν2.i (nAa + 4) = x.i 4 := rf.i 4 (by decide)
  have q8 : ν2.l (nAa + 8) = x.l 8 := rf.l 8 (by decide)
  have q9 : ν2.l (nAa + 9) = x.l 9 := rf.l 9 (by decide)
  have ql : ν2.l 0 = ν.l 0 := rf.lo 0 (by decide)
  have q16 : ν2.i (nAa + 16) = 0 := (rf.i 16 (by decide)).trans J.o
  have q17 : ν2.i (nAa + 17) = x.i 17 := rf.i 17 (by decide)
  have q18 : ν2.i (nAa + 18) = x.i 18 := rf.i 18 (by decide)
  have q19 : ν2.i (nAa + 19) = x.i 19 := rf.i 19 (by decide)
  have q20 : ν2.l (nAa + 20) = x.l 20 := rf.l 20 (by decide)
  have i0 := J.i0
  have hH : (((x.l 20).take (x.i 17).toNat).length : Int) = x.i 17 := by have := J.n0; have := J.n1; rw [List.length_take]; omega
  intro t ht hpc
  simp only [a1_6, List.mem_cons, List.not_mem_nil, or_false] at ht
  rcases ht with rfl | rfl
  · have c := pcAt hpc 2 rfl
    simp only [SB.den] at c
    simp only [SI.den, SL.den, q0, q1, q2, q3, q4, q8, q9, ql, q16, q17, q18, q19, q20, Int.toNat_zero, Int.zero_add] at c
    have b := J.p.low_full h
    rw [b.1, wrapU, Int.emod_eq_of_lt (by omega) (by have := F.n2; omega)] at c
    simp at c
  · refine ⟨rfl, ?_, ?_, by constructor <;> simp⟩ <;> generalize hy : Mt.vals _ (ghL []) ν2 = y
    all_goals (
      have y0 : y.i 0 = x.i 0 + 1 := by rw [← hy]; simp only [Mt.vals, lkp_cons, lkp_nil, Nat.reduceEqDiff, reduceIte, SI.den, SL.den, q0, q1, q2, q3, q4, q8, q9, ql, q16, q17, q18, q19, q20, Int.toNat_zero, List.drop_zero, Int.zero_add]
      have y1 : y.i 1 = 0 := by rw [← hy]; simp only [Mt.vals, lkp_cons, lkp_nil, Nat.reduceEqDiff, reduceIte, SI.den, SL.den, q0, q1, q2, q3, q4, q8, q9, ql, q16, q17, q18, q19, q20, Int.toNat_zero, List.drop_zero, Int.zero_add]
      have y2 : y.i 2 = x.i 2 - 1 := by rw [← hy]; simp only [Mt.vals, lkp_cons, lkp_nil, Nat.reduceEqDiff, reduceIte, SI.den, SL.den, q0, q1, q2, q3, q4, q8, q9, ql, q16, q17, q18, q19, q20, Int.toNat_zero, List.drop_zero, Int.zero_add]
      have y3 : y.i 3 = x.i 3 := by rw [← hy]; simp only [Mt.vals, lkp_cons, lkp_nil, Nat.reduceEqDiff, reduceIte, SI.den, SL.den, q0, q1, q2, q3, q4, q8, q9, ql, q16, q17, q18, q19, q20, Int.toNat_zero, List.drop_zero, Int.zero_add]
      have y4 : y.i 4 = x.i 4 := by rw [← hy]; simp only [Mt.vals, lkp_cons, lkp_nil, Nat.reduceEqDiff, reduceIte, SI.den, SL.den, q0, q1, q2, q3, q4, q8, q9, ql, q16, q17, q18, q19, q20, Int.toNat_zero, List.drop_zero, Int.zero_add]
      have y8 : y.l 8 = ((x.l 8).set 0 (bitsDen 1 .u64 (IntKind.u64.wrap (IntKind.u32.wrap (IntKind.u32.wrap (((x.l 8).getD 0 0).fdiv 4294967296) + 1) * 4294967296)) (IntKind.u32.wrap ((x.l 8).getD (IntKind.u32.wrap ((x.l 8).getD 0 0)).toNat 0)))) := by rw [← hy]; simp only [Mt.vals, lkp_cons, lkp_nil, Nat.reduceEqDiff, reduceIte, SI.den, SL.den, q0, q1, q2, q3, q4, q8, q9, ql, q16, q17, q18, q19, q20, Int.toNat_zero, List.drop_zero, Int.zero_add]
      have y9 : y.l 9 = x.l 9 := by rw [← hy]; simp only [Mt.vals, lkp_cons, lkp_nil, Nat.reduceEqDiff, reduceIte, SI.den, SL.den, q0, q1, q2, q3, q4, q8, q9, ql, q16, q17, q18, q19, q20, Int.toNat_zero, List.drop_zero, Int.zero_add]
      have y16 : y.i 16 = 0 := by rw [← hy]; simp only [Mt.vals, lkp_cons, lkp_nil, Nat.reduceEqDiff, reduceIte, SI.den, SL.den, q0, q1, q2, q3, q4, q8, q9, ql, q16, q17, q18, q19, q20, Int.toNat_zero, List.drop_zero, Int.zero_add]
      have y17 : y.i 17 = x.i 17 + 1 := by rw [← hy]; simp only [Mt.vals, lkp_cons, lkp_nil, Nat.reduceEqDiff, reduceIte, SI.den, SL.den, q0, q1, q2, q3, q4, q8, q9, ql, q16, q17, q18, q19, q20, Int.toNat_zero, List.drop_zero, Int.zero_add]
      have y18 : y.i 18 = x.i 18 := by rw [← hy]; simp only [Mt.vals, lkp_cons, lkp_nil, Nat.reduceEqDiff, reduceIte, SI.den, SL.den, q0, q1, q2, q3, q4, q8, q9, ql, q16, q17, q18, q19, q20, Int.toNat_zero, List.drop_zero, Int.zero_add]
      have y19 : y.i 19 = x.i 19 := by rw [← hy]; simp only [Mt.vals, lkp_cons, lkp_nil, Nat.reduceEqDiff, reduceIte, SI.den, SL.den, q0, q1, q2, q3, q4, q8, q9, ql, q16, q17, q18, q19, q20, Int.toNat_zero, List.drop_zero, Int.zero_add]
      have y20 : y.l 20 = (x.l 20).take (x.i 17).toNat ++ [(x.l 9).getD (x.i 2 - 1).toNat 0] := by rw [← hy]; simp only [Mt.vals, lkp_cons, lkp_nil, Nat.reduceEqDiff, reduceIte, SI.den, SL.den, q0, q1, q2, q3, q4, q8, q9, ql, q16, q17, q18, q19, q20, Int.toNat_zero, List.drop_zero, Int.zero_add]
    )
    · exact J.p.taken F h _ (by omega) (by omega) (by rw [y1, J.p.o]) y2 y3 y4 y8 y9 y16 (by rw [hH]; exact y17) (by rw [y20, J.p.o, Int.zero_add]) (by omega) (by have := J.room; omega)
    · show mA1 ν y < mA1 ν x
      unfold mA1
      omega

theorem cA1_7 (hI : ν.I = inM) (F : FA ν) (rf : RF nAa ν x ν2) (hi : x.i 0 < (ν.l 0).length) (J : JQ ν x) (h : 1 ≤ x.i 17) : ∀ t ∈ a1_7, pcDen ν2 t.pc → GA ν ν2 (mA1 ν x) t := by
  have q0 : ν2.i (nAa + 0) = x.i 0 := rf.i 0 (by decide)
  have q1 : ν2.i (nAa + 1) = 0 := (rf.i 1 (by decide)).trans J.p.o
  have q2 : ν2.i (nAa + 2) = x.i 2 := rf.i 2 (by decide)
  have q3 : ν2.i (nAa + 3) = x.i 3 := rf.i 3 (by decide)
  have q4 : ν2.i (nAa + 4) = x.i 4 := rf.i 4 (by decide)
  have q8 : ν2.l (nAa + 8) = x.l 8 := rf.l 8 (by decide)
  have q9 : ν2.l (nAa + 9) = x.l 9 := rf.l 9 (by decide)
  have ql : ν2.l 0 = ν.l 0 := rf.lo 0 (by decide)
  have q16 : ν2.i (nAa + 16) = 0 := (rf.i 16 (by decide)).trans J.o
  have q17 : ν2.i (nAa + 17) = x.i 17 := rf.i 17 (by decide)
  have q18 : ν2.i (nAa + 18) = x.i 18 := rf.i 18 (by decide)
  have q19 : ν2.i (nAa + 19) = x.i 19 := rf.i 19 (by decide)
  have q20 : ν2.l (nAa + 20) = x.l 20 := rf.l 20 (by decide)
  have i0 := J.i0
  have hH : (((x.l 20).take (x.i 17).toNat).length : Int) = x.i 17 := by have := J.n0; have := J.n1; rw [List.length_take]; omega
  have hd := F.elem (x.i 0).toNat
  obtain ⟨a, ha, hlt⟩ : ∃ a : Nat, ((ν.l 0).getD (x.i 0).toNat 0).tmod (x.i 17) = (a : Int) ∧ (a : Int) < x.i 17 := by
    have h1 := Int.emod_nonneg ((ν.l 0).getD (x.i 0).toNat 0) (show x.i 17 ≠ 0 by omega)
    have h2 := Int.emod_lt_of_pos ((ν.l 0).getD (x.i 0).toNat 0) (show 0 < x.i 17 by omega)
    rw [Int.tmod_eq_emod_of_nonneg hd.1]
    exact ⟨_, (Int.toNat_of_nonneg h1).symm, by rw [Int.toNat_of_nonneg h1]; exact h2⟩
  have n1 := J.n1
  have cap := J.cap
  have e2 : ((a : Int) + 1).toNat = a + 1 := by omega
  have e3 : (x.i 17 - ((a : Int) + 1)).toNat = (x.i 17).toNat - (a + 1) := by omega
  have J2 : JP ν x ((x.l 20).take a ++ ((x.l 20).getD a 0) :: ((x.l 20).drop (a + 1)).take ((x.i 17).toNat - (a + 1))) := by rw [← take_at (by omega) (by omega)]; exact J.p
  have h9 : (((x.l 9).take (x.i 2).toNat).length : Int) = x.i 2 := by have := J.p.n0; have := J.p.n1; rw [List.length_take]; omega
  intro t ht hpc
  simp only [a1_7, List.mem_cons, List.not_mem_nil, or_false] at ht
  subst ht
  · have c := lt_den (pcAt hpc 1 rfl)
    simp only [SI.den, SL.den, q0, q1, q2, q3, q4, q8, q9, ql, q16, q17, q18, q19, q20, Int.toNat_zero, List.drop_zero, Int.zero_add, h9, Bool.false_eq_true, iff_false] at c
    have d := lt_den (pcAt hpc 2 rfl)
    simp only [SI.den, SL.den, q0, q1, q2, q3, q4, q8, q9, ql, q16, q17, q18, q19, q20, Int.toNat_zero, List.drop_zero, Int.zero_add, ha, e2, e3, Int.toNat_natCast, Bool.false_eq_true, iff_false] at d
    refine ⟨rfl, ?_, ?_, by constructor <;> simp⟩ <;> generalize hy : Mt.vals _ (ghL []) ν2 = y
    all_goals (
      have y0 : y.i 0 = x.i 0 + 1 := by rw [← hy]; simp only [Mt.vals, lkp_cons, lkp_nil, Nat.reduceEqDiff, reduceIte, SI.den, SL.den, q0, q1, q2, q3, q4, q8, q9, ql, q16, q17, q18, q19, q20, Int.toNat_zero, List.drop_zero, Int.zero_add]
      have y1 : y.i 1 = 0 := by rw [← hy]; simp only [Mt.vals, lkp_cons, lkp_nil, Nat.reduceEqDiff, reduceIte, SI.den, SL.den, q0, q1, q2, q3, q4, q8, q9, ql, q16, q17, q18, q19, q20, Int.toNat_zero, List.drop_zero, Int.zero_add]
      have y2 : y.i 2 = x.i 2 + 1 := by rw [← hy]; simp only [Mt.vals, lkp_cons, lkp_nil, Nat.reduceEqDiff, reduceIte, SI.den, SL.den, q0, q1, q2, q3, q4, q8, q9, ql, q16, q17, q18, q19, q20, Int.toNat_zero, List.drop_zero, Int.zero_add]
      have y3 : y.i 3 = ν2.i zLwAaT12 := by rw [← hy]; simp only [Mt.vals, lkp_cons, lkp_nil, Nat.reduceEqDiff, reduceIte, SI.den, SL.den, q0, q1, q2, q3, q4, q8, q9, ql, q16, q17, q18, q19, q20, Int.toNat_zero, List.drop_zero, Int.zero_add]
      have y4 : y.i 4 = ν2.i zLwAaT12 := by rw [← hy]; simp only [Mt.vals, lkp_cons, lkp_nil, Nat.reduceEqDiff, reduceIte, SI.den, SL.den, q0, q1, q2, q3, q4, q8, q9, ql, q16, q17, q18, q19, q20, Int.toNat_zero, List.drop_zero, Int.zero_add]
      have y8 : y.l 8 = (((x.l 8).set 0 (bitsDen 1 .u64 (IntKind.u64.wrap (IntKind.u32.wrap (IntKind.u32.wrap (((x.l 8).getD 0 0).fdiv 4294967296) + 1) * 4294967296)) ((x.l 20).getD a 0)))).set ((x.l 20).getD a 0).toNat (IntKind.u32.wrap ((x.l 8).getD 0 0)) := by rw [← hy]; simp only [Mt.vals, lkp_cons, lkp_nil, Nat.reduceEqDiff, reduceIte, SI.den, SL.den, q0, q1, q2, q3, q4, q8, q9, ql, q16, q17, q18, q19, q20, Int.toNat_zero, List.drop_zero, Int.zero_add, ha, e2, e3, Int.toNat_natCast]
      have y9 : y.l 9 = (x.l 9).take (x.i 2).toNat ++ [(x.l 20).getD a 0] := by rw [← hy]; simp only [Mt.vals, lkp_cons, lkp_nil, Nat.reduceEqDiff, reduceIte, SI.den, SL.den, q0, q1, q2, q3, q4, q8, q9, ql, q16, q17, q18, q19, q20, Int.toNat_zero, List.drop_zero, Int.zero_add, ha, e2, e3, Int.toNat_natCast]
      have y16 : y.i 16 = 0 := by rw [← hy]; simp only [Mt.vals, lkp_cons, lkp_nil, Nat.reduceEqDiff, reduceIte, SI.den, SL.den, q0, q1, q2, q3, q4, q8, q9, ql, q16, q17, q18, q19, q20, Int.toNat_zero, List.drop_zero, Int.zero_add]
      have y17 : y.i 17 = ((x.l 20).take a).length + (((x.l 20).drop (a + 1)).take ((x.i 17).toNat - (a + 1))).length := by rw [← hy]; simp only [Mt.vals, lkp_cons, lkp_nil, Nat.reduceEqDiff, reduceIte, SI.den, SL.den, q0, q1, q2, q3, q4, q8, q9, ql, q16, q17, q18, q19, q20, Int.toNat_zero, List.drop_zero, Int.zero_add, ha, e2, e3, Int.toNat_natCast]
      have y18 : y.i 18 = ν2.i zLwAaT11 := by rw [← hy]; simp only [Mt.vals, lkp_cons, lkp_nil, Nat.reduceEqDiff, reduceIte, SI.den, SL.den, q0, q1, q2, q3, q4, q8, q9, ql, q16, q17, q18, q19, q20, Int.toNat_zero, List.drop_zero, Int.zero_add]
      have y19 : y.i 19 = ν2.i zLwAaT11 := by rw [← hy]; simp only [Mt.vals, lkp_cons, lkp_nil, Nat.reduceEqDiff, reduceIte, SI.den, SL.den, q0, q1, q2, q3, q4, q8, q9, ql, q16, q17, q18, q19, q20, Int.toNat_zero, List.drop_zero, Int.zero_add]
      have y20 : y.l 20 = (x.l 20).take a ++ ((x.l 20).drop (a + 1)).take ((x.i 17).toNat - (a + 1)) := by rw [← hy]; simp only [Mt.vals, lkp_cons, lkp_nil, Nat.reduceEqDiff, reduceIte, SI.den, SL.den, q0, q1, q2, q3, q4, q8, q9, ql, q16, q17, q18, q19, q20, Int.toNat_zero, List.drop_zero, Int.zero_add, ha, e2, e3, Int.toNat_natCast]
    )
    · exact J2.putted F _ (by omega) (by omega) y1 y2 (by have := J.p.cap; omega) (by have := J.p.room; omega) y8 y9 y16 (by rw [y20, List.length_append, y17]; omega) y20 (by omega) (by omega)
    · show mA1 ν y < mA1 ν x
      unfold mA1
      omega

theorem cA1_8 (hI : ν.I = inM) (F : FA ν) (rf : RF nAa ν x ν2) (hi : x.i 0 < (ν.l 0).length) (J : JQ ν x) (h : 1 ≤ x.i 17) (hm : x.i 18 ≤ ((ν.l 0).getD (x.i 0).toNat 0).tmod (x.i 17) + 1) : ∀ t ∈ a1_8, pcDen ν2 t.pc → GA ν ν2 (mA1 ν x) t := by
  have q0 : ν2.i (nAa + 0) = x.i 0 := rf.i 0 (by decide)
  have q1 : ν2.i (nAa + 1) = 0 := (rf.i 1 (by decide)).trans J.p.o
  have q2 : ν2.i (nAa + 2) = x.i 2 := rf.i 2 (by decide)
  have q3 : ν2.i (nAa + 3) = x.i 3 := rf.i 3 (by decide)
  have q4 : ν2.i (nAa + 4) = x.i 4 := rf.i 4 (by decide)
  have q8 : ν2.l (nAa + 8) = x.l 8 := rf.l 8 (by decide)
  have q9 : ν2.l (nAa + 9) = x.l 9 := rf.l 9 (by decide)
  have ql : ν2.l 0 = ν.l 0 := rf.lo 0 (by decide)
  have q16 : ν2.i (nAa + 16) = 0 := (rf.i 16 (by decide)).trans J.o
  have q17 : ν2.i (nAa + 17) = x.i 17 := rf.i 17 (by decide)
  have q18 : ν2.i (nAa + 18) = x.i 18 := rf.i 18 (by decide)
  have q19 : ν2.i (nAa + 19) = x.i 19 := rf.i 19 (by decide)
  have q20 : ν2.l (nAa + 20) = x.l 20 := rf.l 20 (by decide)
  have i0 := J.i0
  have hH : (((x.l 20).take (x.i 17).toNat).length : Int) = x.i 17 := by have := J.n0; have := J.n1; rw [List.length_take]; omega
  have hd := F.elem (x.i 0).toNat
  obtain ⟨a, ha, hlt⟩ : ∃ a : Nat, ((ν.l 0).getD (x.i 0).toNat 0).tmod (x.i 17) = (a : Int) ∧ (a : Int) < x.i 17 := by
    have h1 := Int.emod_nonneg ((ν.l 0).getD (x.i 0).toNat 0) (show x.i 17 ≠ 0 by omega)
    have h2 := Int.emod_lt_of_pos ((ν.l 0).getD (x.i 0).toNat 0) (show 0 < x.i 17 by omega)
    rw [Int.tmod_eq_emod_of_nonneg hd.1]
    exact ⟨_, (Int.toNat_of_nonneg h1).symm, by rw [Int.toNat_of_nonneg h1]; exact h2⟩
  have n1 := J.n1
  have cap := J.cap
  have e2 : ((a : Int) + 1).toNat = a + 1 := by omega
  rw [ha] at hm
  have e3 : (x.i 17 - ((a : Int) + 1)).toNat = 0 := by omega
  have J2 : JP ν x ((x.l 20).take a ++ ((x.l 20).getD a 0) :: []) := by
    have e : (x.l 20).take (x.i 17).toNat = (x.l 20).take a ++ [((x.l 20).getD a 0)] := by rw [← take_snoc (by omega)]; congr 1; omega
    rw [← e]; exact J.p
  have h9 : (((x.l 9).take (x.i 2).toNat).length : Int) = x.i 2 := by have := J.p.n0; have := J.p.n1; rw [List.length_take]; omega
  intro t ht hpc
  simp only [a1_8, List.mem_cons, List.not_mem_nil, or_false] at ht
  subst ht
  · have c := lt_den (pcAt hpc 1 rfl)
    simp only [SI.den, SL.den, q0, q1, q2, q3, q4, q8, q9, ql, q16, q17, q18, q19, q20, Int.toNat_zero, List.drop_zero, Int.zero_add, h9, Bool.false_eq_true, iff_false] at c
    have d := lt_den (pcAt hpc 2 rfl)
    simp only [SI.den, SL.den, q0, q1, q2, q3, q4, q8, q9, ql, q16, q17, q18, q19, q20, Int.toNat_zero, List.drop_zero, Int.zero_add, ha, e2, e3, List.take_zero, Int.toNat_natCast, Bool.false_eq_true, iff_false] at d
    refine ⟨rfl, ?_, ?_, by constructor <;> simp⟩ <;> generalize hy : Mt.vals _ (ghL []) ν2 = y
    all_goals (
      have y0 : y.i 0 = x.i 0 + 1 := by rw [← hy]; simp only [Mt.vals, lkp_cons, lkp_nil, Nat.reduceEqDiff, reduceIte, SI.den, SL.den, q0, q1, q2, q3, q4, q8, q9, ql, q16, q17, q18, q19, q20, Int.toNat_zero, List.drop_zero, Int.zero_add]
      have y1 : y.i 1 = 0 := by rw [← hy]; simp only [Mt.vals, lkp_cons, lkp_nil, Nat.reduceEqDiff, reduceIte, SI.den, SL.den, q0, q1, q2, q3, q4, q8, q9, ql, q16, q17, q18, q19, q20, Int.toNat_zero, List.drop_zero, Int.zero_add]
      have y2 : y.i 2 = x.i 2 + 1 := by rw [← hy]; simp only [Mt.vals, lkp_cons, lkp_nil, Nat.reduceEqDiff, reduceIte, SI.den, SL.den, q0, q1, q2, q3, q4, q8, q9, ql, q16, q17, q18, q19, q20, Int.toNat_zero, List.drop_zero, Int.zero_add]
      have y3 : y.i 3 = ν2.i zLwAaT12 := by rw [← hy]; simp only [Mt.vals, lkp_cons, lkp_nil, Nat.reduceEqDiff, reduceIte, SI.den, SL.den, q0, q1, q2, q3, q4, q8, q9, ql, q16, q17, q18, q19, q20, Int.toNat_zero, List.drop_zero, Int.zero_add]
      have y4 : y.i 4 = ν2.i zLwAaT12 := by rw [← hy]; simp only [Mt.vals, lkp_cons, lkp_nil, Nat.reduceEqDiff, reduceIte, SI.den, SL.den, q0, q1, q2, q3, q4, q8, q9, ql, q16, q17, q18, q19, q20, Int.toNat_zero, List.drop_zero, Int.zero_add]
      have y8 : y.l 8 = (((x.l 8).set 0 (bitsDen 1 .u64 (IntKind.u64.wrap (IntKind.u32.wrap (IntKind.u32.wrap (((x.l 8).getD 0 0).fdiv 4294967296) + 1) * 4294967296)) ((x.l 20).getD a 0)))).set ((x.l 20).getD a 0).toNat (IntKind.u32.wrap ((x.l 8).getD 0 0)) := by rw [← hy]; simp only [Mt.vals, lkp_cons, lkp_nil, Nat.reduceEqDiff, reduceIte, SI.den, SL.den, q0, q1, q2, q3, q4, q8, q9, ql, q16, q17, q18, q19, q20, Int.toNat_zero, List.drop_zero, Int.zero_add, ha, e2, e3, List.take_zero, Int.toNat_natCast]
      have y9 : y.l 9 = (x.l 9).take (x.i 2).toNat ++ [(x.l 20).getD a 0] := by rw [← hy]; simp only [Mt.vals, lkp_cons, lkp_nil, Nat.reduceEqDiff, reduceIte, SI.den, SL.den, q0, q1, q2, q3, q4, q8, q9, ql, q16, q17, q18, q19, q20, Int.toNat_zero, List.drop_zero, Int.zero_add, ha, e2, e3, List.take_zero, Int.toNat_natCast]
      have y16 : y.i 16 = 0 := by rw [← hy]; simp only [Mt.vals, lkp_cons, lkp_nil, Nat.reduceEqDiff, reduceIte, SI.den, SL.den, q0, q1, q2, q3, q4, q8, q9, ql, q16, q17, q18, q19, q20, Int.toNat_zero, List.drop_zero, Int.zero_add]
      have y17 : y.i 17 = ((x.l 20).take a).length + (([] : List Int)).length := by rw [← hy]; simp only [Mt.vals, lkp_cons, lkp_nil, Nat.reduceEqDiff, reduceIte, SI.den, SL.den, q0, q1, q2, q3, q4, q8, q9, ql, q16, q17, q18, q19, q20, Int.toNat_zero, List.drop_zero, Int.zero_add, ha, e2, e3, List.take_zero, Int.toNat_natCast]
      have y18 : y.i 18 = ν2.i zLwAaT11 := by rw [← hy]; simp only [Mt.vals, lkp_cons, lkp_nil, Nat.reduceEqDiff, reduceIte, SI.den, SL.den, q0, q1, q2, q3, q4, q8, q9, ql, q16, q17, q18, q19, q20, Int.toNat_zero, List.drop_zero, Int.zero_add]
      have y19 : y.i 19 = ν2.i zLwAaT11 := by rw [← hy]; simp only [Mt.vals, lkp_cons, lkp_nil, Nat.reduceEqDiff, reduceIte, SI.den, SL.den, q0, q1, q2, q3, q4, q8, q9, ql, q16, q17, q18, q19, q20, Int.toNat_zero, List.drop_zero, Int.zero_add]
      have y20 : y.l 20 = (x.l 20).take a ++ ([] : List Int) := by rw [← hy]; simp only [Mt.vals, lkp_cons, lkp_nil, Nat.reduceEqDiff, reduceIte, SI.den, SL.den, q0, q1, q2, q3, q4, q8, q9, ql, q16, q17, q18, q19, q20, Int.toNat_zero, List.drop_zero, Int.zero_add, ha, e2, e3, List.take_zero, Int.toNat_natCast]
    )
    · exact J2.putted F _ (by omega) (by omega) y1 y2 (by have := J.p.cap; omega) (by have := J.p.room; omega) y8 y9 y16 (by rw [y20, List.length_append, y17]; omega) y20 (by omega) (by omega)
    · show mA1 ν y < mA1 ν x
      unfold mA1
      omega

theorem cA1_9 (hI : ν.I = inM) (F : FA ν) (rf : RF nAa ν x ν2) (hi : x.i 0 < (ν.l 0).length) (J : JQ ν x) (h : 1 ≤ x.i 17) (hr : x.i 2 + 1 ≤ x.i 3) : ∀ t ∈ a1_9, pcDen ν2 t.pc → GA ν ν2 (mA1 ν x) t := by
  have q0 : ν2.i (nAa + 0) = x.i 0 := rf.i 0 (by decide)
  have q1 : ν2.i (nAa + 1) = 0 := (rf.i 1 (by decide)).trans J.p.o
  have q2 : ν2.i (nAa + 2) = x.i 2 := rf.i 2 (by decide)
  have q3 : ν2.i (nAa + 3) = x.i 3 := rf.i 3 (by decide)
  have q4 : ν2.i (nAa + 4) = x.i 4 := rf.i 4 (by decide)
  have q8 : ν2.l (nAa + 8) = x.l 8 := rf.l 8 (by decide)
  have q9 : ν2.l (nAa + 9) = x.l 9 := rf.l 9 (by decide)
  have ql : ν2.l 0 = ν.l 0 := rf.lo 0 (by decide)
  have q16 : ν2.i (nAa + 16) = 0 := (rf.i 16 (by decide)).trans J.o
  have q17 : ν2.i (nAa + 17) = x.i 17 := rf.i 17 (by decide)
  have q18 : ν2.i (nAa + 18) = x.i 18 := rf.i 18 (by decide)
  have q19 : ν2.i (nAa + 19) = x.i 19 := rf.i 19 (by decide)
  have q20 : ν2.l (nAa + 20) = x.l 20 := rf.l 20 (by decide)
  have i0 := J.i0
  have hH : (((x.l 20).take (x.i 17).toNat).length : Int) = x.i 17 := by have := J.n0; have := J.n1; rw [List.length_take]; omega
  have hd := F.elem (x.i 0).toNat
  obtain ⟨a, ha, hlt⟩ : ∃ a : Nat, ((ν.l 0).getD (x.i 0).toNat 0).tmod (x.i 17) = (a : Int) ∧ (a : Int) < x.i 17 := by
    have h1 := Int.emod_nonneg ((ν.l 0).getD (x.i 0).toNat 0) (show x.i 17 ≠ 0 by omega)
    have h2 := Int.emod_lt_of_pos ((ν.l 0).getD (x.i 0).toNat 0) (show 0 < x.i 17 by omega)
    rw [Int.tmod_eq_emod_of_nonneg hd.1]
    exact ⟨_, (Int.toNat_of_nonneg h1).symm, by rw [Int.toNat_of_nonneg h1]; exact h2⟩
  have n1 := J.n1
  have cap := J.cap
  have e2 : ((a : Int) + 1).toNat = a + 1 := by omega
  have e3 : (x.i 17 - ((a : Int) + 1)).toNat = (x.i 17).toNat - (a + 1) := by omega
  have J2 : JP ν x ((x.l 20).take a ++ ((x.l 20).getD a 0) :: ((x.l 20).drop (a + 1)).take ((x.i 17).toNat - (a + 1))) := by rw [← take_at (by omega) (by omega)]; exact J.p
  have h9 : (((x.l 9).take (x.i 2).toNat).length : Int) = x.i 2 := by have := J.p.n0; have := J.p.n1; rw [List.length_take]; omega
  intro t ht hpc
  simp only [a1_9, List.mem_cons, List.not_mem_nil, or_false] at ht
  subst ht
  · have d := lt_den (pcAt hpc 2 rfl)
    simp only [SI.den, SL.den, q0, q1, q2, q3, q4, q8, q9, ql, q16, q17, q18, q19, q20, Int.toNat_zero, List.drop_zero, Int.zero_add, ha, e2, e3, Int.toNat_natCast, Bool.false_eq_true, iff_false] at d
    refine ⟨rfl, ?_, ?_, by constructor <;> simp⟩ <;> generalize hy : Mt.vals _ (ghL []) ν2 = y
    all_goals (
      have y0 : y.i 0 = x.i 0 + 1 := by rw [← hy]; simp only [Mt.vals, lkp_cons, lkp_nil, Nat.reduceEqDiff, reduceIte, SI.den, SL.den, q0, q1, q2, q3, q4, q8, q9, ql, q16, q17, q18, q19, q20, Int.toNat_zero, List.drop_zero, Int.zero_add]
      have y1 : y.i 1 = 0 := by rw [← hy]; simp only [Mt.vals, lkp_cons, lkp_nil, Nat.reduceEqDiff, reduceIte, SI.den, SL.den, q0, q1, q2, q3, q4, q8, q9, ql, q16, q17, q18, q19, q20, Int.toNat_zero, List.drop_zero, Int.zero_add]
      have y2 : y.i 2 = x.i 2 + 1 := by rw [← hy]; simp only [Mt.vals, lkp_cons, lkp_nil, Nat.reduceEqDiff, reduceIte, SI.den, SL.den, q0, q1, q2, q3, q4, q8, q9, ql, q16, q17, q18, q19, q20, Int.toNat_zero, List.drop_zero, Int.zero_add]
      have y3 : y.i 3 = x.i 3 := by rw [← hy]; simp only [Mt.vals, lkp_cons, lkp_nil, Nat.reduceEqDiff, reduceIte, SI.den, SL.den, q0, q1, q2, q3, q4, q8, q9, ql, q16, q17, q18, q19, q20, Int.toNat_zero, List.drop_zero, Int.zero_add]
      have y4 : y.i 4 = x.i 4 := by rw [← hy]; simp only [Mt.vals, lkp_cons, lkp_nil, Nat.reduceEqDiff, reduceIte, SI.den, SL.den, q0, q1, q2, q3, q4, q8, q9, ql, q16, q17, q18, q19, q20, Int.toNat_zero, List.drop_zero, Int.zero_add]
      have y8 : y.l 8 = (((x.l 8).set 0 (bitsDen 1 .u64 (IntKind.u64.wrap (IntKind.u32.wrap (IntKind.u32.wrap (((x.l 8).getD 0 0).fdiv 4294967296) + 1) * 4294967296)) ((x.l 20).getD a 0)))).set ((x.l 20).getD a 0).toNat (IntKind.u32.wrap ((x.l 8).getD 0 0)) := by rw [← hy]; simp only [Mt.vals, lkp_cons, lkp_nil, Nat.reduceEqDiff, reduceIte, SI.den, SL.den, q0, q1, q2, q3, q4, q8, q9, ql, q16, q17, q18, q19, q20, Int.toNat_zero, List.drop_zero, Int.zero_add, ha, e2, e3, Int.toNat_natCast]
      have y9 : y.l 9 = (x.l 9).take (x.i 2).toNat ++ [(x.l 20).getD a 0] := by rw [← hy]; simp only [Mt.vals, lkp_cons, lkp_nil, Nat.reduceEqDiff, reduceIte, SI.den, SL.den, q0, q1, q2, q3, q4, q8, q9, ql, q16, q17, q18, q19, q20, Int.toNat_zero, List.drop_zero, Int.zero_add, ha, e2, e3, Int.toNat_natCast]
      have y16 : y.i 16 = 0 := by rw [← hy]; simp only [Mt.vals, lkp_cons, lkp_nil, Nat.reduceEqDiff, reduceIte, SI.den, SL.den, q0, q1, q2, q3, q4, q8, q9, ql, q16, q17, q18, q19, q20, Int.toNat_zero, List.drop_zero, Int.zero_add]
      have y17 : y.i 17 = ((x.l 20).take a).length + (((x.l 20).drop (a + 1)).take ((x.i 17).toNat - (a + 1))).length := by rw [← hy]; simp only [Mt.vals, lkp_cons, lkp_nil, Nat.reduceEqDiff, reduceIte, SI.den, SL.den, q0, q1, q2, q3, q4, q8, q9, ql, q16, q17, q18, q19, q20, Int.toNat_zero, List.drop_zero, Int.zero_add, ha, e2, e3, Int.toNat_natCast]
      have y18 : y.i 18 = ν2.i zLwAaT11 := by rw [← hy]; simp only [Mt.vals, lkp_cons, lkp_nil, Nat.reduceEqDiff, reduceIte, SI.den, SL.den, q0, q1, q2, q3, q4, q8, q9, ql, q16, q17, q18, q19, q20, Int.toNat_zero, List.drop_zero, Int.zero_add]
      have y19 : y.i 19 = ν2.i zLwAaT11 := by rw [← hy]; simp only [Mt.vals, lkp_cons, lkp_nil, Nat.reduceEqDiff, reduceIte, SI.den, SL.den, q0, q1, q2, q3, q4, q8, q9, ql, q16, q17, q18, q19, q20, Int.toNat_zero, List.drop_zero, Int.zero_add]
      have y20 : y.l 20 = (x.l 20).take a ++ ((x.l 20).drop (a + 1)).take ((x.i 17).toNat - (a + 1)) := by rw [← hy]; simp only [Mt.vals, lkp_cons, lkp_nil, Nat.reduceEqDiff, reduceIte, SI.den, SL.den, q0, q1, q2, q3, q4, q8, q9, ql, q16, q17, q18, q19, q20, Int.toNat_zero, List.drop_zero, Int.zero_add, ha, e2, e3, Int.toNat_natCast]
    )
    · exact J2.putted F _ (by omega) (by omega) y1 y2 (by have := J.p.cap; omega) (by have := J.p.room; omega) y8 y9 y16 (by rw [y20, List.length_append, y17]; omega) y20 (by omega) (by omega)
    · show mA1 ν y < mA1 ν x
      unfold mA1
      omega

theorem cA1_10 (hI : ν.I = inM) (F : FA ν) (rf : RF nAa ν x ν2) (hi : x.i 0 < (ν.l 0).length) (J : JQ ν x) (h : 1 ≤ x.i 17) (hr : x.i 2 + 1 ≤ x.i 3) (hm : x.i 18 ≤ ((ν.l 0).getD (x.i 0).toNat 0).tmod (x.i 17) + 1) : ∀ t ∈ a1_10, pcDen ν2 t.pc → GA ν ν2 (mA1 ν x) t := by
  have q0 : ν2.i (nAa + 0) = x.i 0 := rf.i 0 (by decide)
  have q1 : ν2.i (nAa + 1) = 0 := (rf.i 1 (by decide)).trans J.p.o
  have q2 : ν2.i (nAa + 2) = x.i 2 := rf.i 2 (by decide)
  have q3 : ν2.i (nAa + 3) = x.i 3 := rf.i 3 (by decide)
  have q4 : ν2.i (nAa + 4) = x.i 4 := rf.i 4 (by decide)
  have q8 : ν2.l (nAa + 8) = x.l 8 := rf.l 8 (by decide)
  have q9 : ν2.l (nAa + 9) = x.l 9 := rf.l 9 (by decide)
  have ql : ν2.l 0 = ν.l 0 := rf.lo 0 (by decide)
  have q16 : ν2.i (nAa + 16) = 0 := (rf.i 16 (by decide)).trans J.o
  have q17 : ν2.i (nAa + 17) = x.i 17 := rf.i 17 (by decide)
  have q18 : ν2.i (nAa + 18) = x.i 18 := rf.i 18 (by decide)
  have q19 : ν2.i (nAa + 19) = x.i 19 := rf.i 19 (by decide)
  have q20 : ν2.l (nAa + 20) = x.l 20 := rf.l 20 (by decide)
  have i0 := J.i0
  have hH : (((x.l 20).take (x.i 17).toNat).length : Int) = x.i 17 := by have := J.n0; have := J.n1; rw [List.length_take]; omega
  have hd := F.elem (x.i 0).toNat
  obtain ⟨a, ha, hlt⟩ : ∃ a : Nat, ((ν.l 0).getD (x.i 0).toNat 0).tmod (x.i 17) = (a : Int) ∧ (a : Int) < x.i 17 := by
    have h1 := Int.emod_nonneg ((ν.l 0).getD (x.i 0).toNat 0) (show x.i 17 ≠ 0 by omega)
    have h2 := Int.emod_lt_of_pos ((ν.l 0).getD (x.i 0).toNat 0) (show 0 < x.i 17 by omega)
    rw [Int.tmod_eq_emod_of_nonneg hd.1]
    exact ⟨_, (Int.toNat_of_nonneg h1).symm, by rw [Int.toNat_of_nonneg h1]; exact h2⟩
  have n1 := J.n1
  have cap := J.cap
  have e2 : ((a : Int) + 1).toNat = a + 1 := by omega
  rw [ha] at hm
  have e3 : (x.i 17 - ((a : Int) + 1)).toNat = 0 := by omega
  have J2 : JP ν x ((x.l 20).take a ++ ((x.l 20).getD a 0) :: []) := by
    have e : (x.l 20).take (x.i 17).toNat = (x.l 20).take a ++ [((x.l 20).getD a 0)] := by rw [← take_snoc (by omega)]; congr 1; omega
    rw [← e]; exact J.p
  have h9 : (((x.l 9).take (x.i 2).toNat).length : Int) = x.i 2 := by have := J.p.n0; have := J.p.n1; rw [List.length_take]; omega
  intro t ht hpc
  simp only [a1_10, List.mem_cons, List.not_mem_nil, or_false] at ht
  subst ht
  · have d := lt_den (pcAt hpc 2 rfl)
    simp only [SI.den, SL.den, q0, q1, q2, q3, q4, q8, q9, ql, q16, q17, q18, q19, q20, Int.toNat_zero, List.drop_zero, Int.zero_add, ha, e2, e3, List.take_zero, Int.toNat_natCast, Bool.false_eq_true, iff_false] at d
    refine ⟨rfl, ?_, ?_, by constructor <;> simp⟩ <;> generalize hy : Mt.vals _ (ghL []) ν2 = y
    all_goals (
      have y0 : y.i 0 = x.i 0 + 1 := by rw [← hy]; simp only [Mt.vals, lkp_cons, lkp_nil, Nat.reduceEqDiff, reduceIte, SI.den, SL.den, q0, q1, q2, q3, q4, q8, q9, ql, q16, q17, q18, q19, q20, Int.toNat_zero, List.drop_zero, Int.zero_add]
      have y1 : y.i 1 = 0 := by rw [← hy]; simp only [Mt.vals, lkp_cons, lkp_nil, Nat.reduceEqDiff, reduceIte, SI.den, SL.den, q0, q1, q2, q3, q4, q8, q9, ql, q16, q17, q18, q19, q20, Int.toNat_zero, List.drop_zero, Int.zero_add]
      have y2 : y.i 2 = x.i 2 + 1 := by rw [← hy]; simp only [Mt.vals, lkp_cons, lkp_nil, Nat.reduceEqDiff, reduceIte, SI.den, SL.den, q0, q1, q2, q3, q4, q8, q9, ql, q16, q17, q18, q19, q20, Int.toNat_zero, List.drop_zero, Int.zero_add]
      have y3 : y.i 3 = x.i 3 := by rw [← hy]; simp only [Mt.vals, lkp_cons, lkp_nil, Nat.reduceEqDiff, reduceIte, SI.den, SL.den, q0, q1, q2, q3, q4, q8, q9, ql, q16, q17, q18, q19, q20, Int.toNat_zero, List.drop_zero, Int.zero_add]
      have y4 : y.i 4 = x.i 4 := by rw [← hy]; simp only [Mt.vals, lkp_cons, lkp_nil, Nat.reduceEqDiff, reduceIte, SI.den, SL.den, q0, q1, q2, q3, q4, q8, q9, ql, q16, q17, q18, q19, q20, Int.toNat_zero, List.drop_zero, Int.zero_add]
      have y8 : y.l 8 = (((x.l 8).set 0 (bitsDen 1 .u64 (IntKind.u64.wrap (IntKind.u32.wrap (IntKind.u32.wrap (((x.l 8).getD 0 0).fdiv 4294967296) + 1) * 4294967296)) ((x.l 20).getD a 0)))).set ((x.l 20).getD a 0).toNat (IntKind.u32.wrap ((x.l 8).getD 0 0)) := by rw [← hy]; simp only [Mt.vals, lkp_cons, lkp_nil, Nat.reduceEqDiff, reduceIte, SI.den, SL.den, q0, q1, q2, q3, q4, q8, q9, ql, q16, q17, q18, q19, q20, Int.toNat_zero, List.drop_zero, Int.zero_add, ha, e2, e3, List.take_zero, Int.toNat_natCast]
      have y9 : y.l 9 = (x.l 9).take (x.i 2).toNat ++ [(x.l 20).getD a 0] := by rw [← hy]; simp only [Mt.vals, lkp_cons, lkp_nil, Nat.reduceEqDiff, reduceIte, SI.den, SL.den, q0, q1, q2, q3, q4, q8, q9, ql, q16, q17, q18, q19, q20, Int.toNat_zero, List.drop_zero, Int.zero_add, ha, e2, e3, List.take_zero, Int.toNat_natCast]
      have y16 : y.i 16 = 0 := by rw [← hy]; simp only [Mt.vals, lkp_cons, lkp_nil, Nat.reduceEqDiff, reduceIte, SI.den, SL.den, q0, q1, q2, q3, q4, q8, q9, ql, q16, q17, q18, q19, q20, Int.toNat_zero, List.drop_zero, Int.zero_add]
      have y17 : y.i 17 = ((x.l 20).take a).length + (([] : List Int)).length := by rw [← hy]; simp only [Mt.vals, lkp_cons, lkp_nil, Nat.reduceEqDiff, reduceIte, SI.den, SL.den, q0, q1, q2, q3, q4, q8, q9, ql, q16, q17, q18, q19, q20, Int.toNat_zero, List.drop_zero, Int.zero_add, ha, e2, e3, List.take_zero, Int.toNat_natCast]
      have y18 : y.i 18 = ν2.i zLwAaT11 := by rw [← hy]; simp only [Mt.vals, lkp_cons, lkp_nil, Nat.reduceEqDiff, reduceIte, SI.den, SL.den, q0, q1, q2, q3, q4, q8, q9, ql, q16, q17, q18, q19, q20, Int.toNat_zero, List.drop_zero, Int.zero_add]
      have y19 : y.i 19 = ν2.i zLwAaT11 := by rw [← hy]; simp only [Mt.vals, lkp_cons, lkp_nil, Nat.reduceEqDiff, reduceIte, SI.den, SL.den, q0, q1, q2, q3, q4, q8, q9, ql, q16, q17, q18, q19, q20, Int.toNat_zero, List.drop_zero, Int.zero_add]
      have y20 : y.l 20 = (x.l 20).take a ++ ([] : List Int) := by rw [← hy]; simp only [Mt.vals, lkp_cons, lkp_nil, Nat.reduceEqDiff, reduceIte, SI.den, SL.den, q0, q1, q2, q3, q4, q8, q9, ql, q16, q17, q18, q19, q20, Int.toNat_zero, List.drop_zero, Int.zero_add, ha, e2, e3, List.take_zero, Int.toNat_natCast]
    )
    · exact J2.putted F _ (by omega) (by omega) y1 y2 (by have := J.p.cap; omega) (by have := J.p.room; omega) y8 y9 y16 (by rw [y20, List.length_append, y17]; omega) y20 (by omega) (by omega)
    · show mA1 ν y < mA1 ν x
      unfold mA1
      omega

end
end Go.Proofs.Ytoogepoalbhlhaa
end
