/- LaneAlone's loop as a contract. -/
import Derived.Test.YtlmenjenkpnacaaLwXQ
import Derived.Test.YtlmenjenkpnacaaLwLaRA
import Derived.Test.YtlmenjenkpnacaaLwLaRB
import Derived.Test.YtlmenjenkpnacaaLwLaRC
import Derived.Test.YtlmenjenkpnacaaLwLaRD
import Derived.Test.YtlmenjenkpnacaaLwLaRE
import Derived.Test.YtlmenjenkpnacaaLwLaRF
import Derived.Test.YtlmenjenkpnacaaLwLaRG
import Derived.Test.YtlmenjenkpnacaaLwXP
import Derived.Test.YtlmenjenkpnacaaLwXA
import Derived.Test.YtlmenjenkpnacaaSyE
import Derived.Test.YtlmenjenkpnacaaRows
set_option linter.unusedVariables false
set_option linter.unusedSimpArgs false

section
namespace Go.Proofs.Ytlmenjenkpnacaa
open Go Go.Sy Go.RowKit

def bLaL : PC := pcELa.map fun x => (x.1, !x.2)
theorem oLa_ok : OOK Try.prog (oLa Try.prog) inM := pruned_ok pr (same_ok (lnInit_ok (right32_ok (ln_ok (awake32_ok (opLoadS_ok (opAppendW_ok (opSliceT_ok qO_ok))))))))
def sumsLa : List (List (PC × List SumT)) := [[(qAt cases0 0, u0_0), (qAt cases0 1, u0_1), (qAt cases0 2, u0_2)], [(qAt cases1 0, u1_0), (qAt cases1 1, u1_1), (qAt cases1 2, u1_2), (qAt cases1 3, u1_3), (qAt cases1 4, u1_4), (qAt cases1 5, u1_5), (qAt cases1 6, u1_6), (qAt cases1 7, u1_7)]]
def entL0 : Tgt := hdAt entLa 0
theorem oneLa : (loopsAt Try.prog fLa sLa).length = 1 := by kernel_rfl
theorem stLa : mAll nLa 0 0 Try.prog entL0.fr entL0.hp (hdAt headsL 0).fr (hdAt headsL 0).hp = some startLa := by kernel_rfl
def oLaL (P : Program) : Orac := (oLa P).withLoop fLa sLa nLa entL0.fr entL0.hp (mkM nLa tgL bLaL)
def jL (i : Nat) (ν : Env Gh) (x : Vals Gh) : Prop := match i with
  | 0 => ∃ b, LQ (x.l 8) (ν.i 11) b 0
  | _ => ∃ b n, JL ν x b n
def mL (i : Nat) (ν : Env Gh) (x : Vals Gh) : Nat := match i with
  | 0 => (ν.l 0).length + 1
  | _ => mL1 ν x
attribute [local irreducible] nmAt
theorem twoL {i : Nat} {h : Tgt} {ss : List (PC × List SumT)} (hi : headsL[i]? = some h) (hs : sumsLa[i]? = some ss) : (i = 0 ∧ h = hdAt headsL 0 ∧ ss = (sumsLa[0]?).getD []) ∨ (i = 1 ∧ h = hdAt headsL 1 ∧ ss = (sumsLa[1]?).getD []) := by
  have hlt : i < 2 := (List.getElem?_eq_some_iff.1 hs).1
  match i, hlt with
  | 0, _ => exact .inl ⟨rfl, by unfold hdAt; rw [hi]; rfl, by rw [hs]; rfl⟩
  | 1, _ => exact .inr ⟨rfl, by unfold hdAt; rw [hi]; rfl, by rw [hs]; rfl⟩
theorem finL {ν ν2 : Env Gh} {x : Vals Gh} {t : SumT} {i : Nat} (F : FL ν) (hp : pcDen ν pcELa) (h : GL ν ν2 (mL i ν x) t) : match t.ex with
      | .normal => ∀ g, headsL[t.k]? = some g → jL t.k ν (t.mt.vals (ghL []) ν2) ∧ pcDen (ν.at nLa (t.mt.vals (ghL []) ν2)) g.pc ∧ mL t.k ν (t.mt.vals (ghL []) ν2) < mL i ν x ∧ t.mt.Owed ν2 (ν.at nLa (t.mt.vals (ghL []) ν2))
      | .bad => False
      | _ => (∀ g, tgL[t.k]? = some g → pcDen (ν.at nLa (t.mt.vals (ghL []) ν2)) g.pc) ∧ t.mt.Owed ν2 (ν.at nLa (t.mt.vals (ghL []) ν2)) := by
  unfold GL at h
  revert h
  cases t.ex with
  | normal =>
    rintro ⟨hk, ⟨a, n, J⟩, hm, ho⟩ g hg
    rw [hk] at hg ⊢
    have e : g = hdAt headsL 1 := by unfold hdAt; rw [hg]; rfl
    subst e
    exact ⟨⟨a, n, J⟩, hL1ok F hp J, hm, ho⟩
  | bad => exact fun h => h
  | ret => exact fun h => h.elim
  | exit j =>
    rintro ⟨hk, ho⟩
    refine ⟨fun g hg => ?_, ho⟩
    rw [hk] at hg
    cases hg
    exact pcDen_nil _
theorem exitL0 {ν ν2 : Env Gh} {m0 : Nat} {t : SumT} (ht : t ∈ u0_0) : GL ν ν2 m0 t := by
  simp only [u0_0, List.mem_cons, List.not_mem_nil, or_false] at ht
  subst ht
  exact ⟨rfl, by constructor <;> simp⟩
theorem exitL1 {ν ν2 : Env Gh} {m0 : Nat} {t : SumT} (ht : t ∈ u1_0) : GL ν ν2 m0 t := by
  simp only [u1_0, List.mem_cons, List.not_mem_nil, or_false] at ht
  subst ht
  exact ⟨rfl, by constructor <;> simp⟩
section
variable {ν : Env Gh} {x : Vals Gh} {b : Int} {n : Nat}
/-- the turn where one puts: it is free, or the first task's -/
theorem dPut_room (h : LQ (x.l 8) (ν.i 11) b n) (hn : (n : Int) < ν.i 11) : dPut.den (ν.at nLa x) = 0 := by
  have rf : RF nLa ν x (ν.at nLa x) := RF.self rfl
  obtain ⟨e1, -⟩ := bitsE (l := x.l 8) (x := b + n) h.pow
  have hf := h.free n (Nat.le_refl _) hn
  simp only [dPut, manyOf, turnX, endLa, lLa, szLa, SI.den, SL.den, rf.l 8 (by decide), rf.io 11 (by decide), Int.toNat_zero]
  rw [h.fin, e1, hf]
  simp only [wu, IntKind.wrap_i64]; omega
theorem dPut_full (h : LQ (x.l 8) (ν.i 11) b n) (hn : (n : Int) = ν.i 11) (hle : ν.i 11 ≤ 32) : dPut.den (ν.at nLa x) < 0 := by
  have rf : RF nLa ν x (ν.at nLa x) := RF.self rfl
  have hp := h.pow.le
  obtain ⟨e1, -⟩ := bitsE (l := x.l 8) (x := b + n) h.pow
  have e2 : tz (ν.i 11) (b + n) = tz (ν.i 11) (b + (0 : Nat)) := by unfold tz; rw [hn, Int.add_emod_right]; congr 4; omega
  have hf := h.full 0 (by omega)
  simp only [dPut, manyOf, turnX, endLa, lLa, szLa, SI.den, SL.den, rf.l 8 (by decide), rf.io 11 (by decide), Int.toNat_zero]
  rw [h.fin, e1, e2, hf]
  simp only [wu, IntKind.wrap_i64]; omega
theorem dTake_any (h : LQ (x.l 8) (ν.i 11) b (n + 1)) : dTake.den (ν.at nLa x) = 0 := by
  have rf : RF nLa ν x (ν.at nLa x) := RF.self rfl
  have hb := h.b0
  have hb1 := h.b1
  obtain ⟨e1, -⟩ := bitsE (l := x.l 8) (x := b) h.pow
  rw [Int.emod_eq_of_lt hb hb1] at e1
  have hf := h.full 0 (by omega)
  rw [show b + ((0 : Nat) : Int) = b by omega] at hf
  simp only [dTake, turnX, begLa, lLa, szLa, SI.den, SL.den, rf.l 8 (by decide), rf.io 11 (by decide), one]
  rw [h.beg, e1, hf]
  simp only [wu, IntKind.wrap_i64]; omega
theorem dTake_none (h : LQ (x.l 8) (ν.i 11) b 0) : dTake.den (ν.at nLa x) < 0 := by
  have rf : RF nLa ν x (ν.at nLa x) := RF.self rfl
  have hb := h.b0
  have hb1 := h.b1
  have hp := h.pow.le
  obtain ⟨e1, -⟩ := bitsE (l := x.l 8) (x := b) h.pow
  rw [Int.emod_eq_of_lt hb hb1] at e1
  have hf := h.free 0 (Nat.le_refl _) (by omega)
  rw [show b + ((0 : Nat) : Int) = b by omega] at hf
  simp only [dTake, turnX, begLa, lLa, szLa, SI.den, SL.den, rf.l 8 (by decide), rf.io 11 (by decide), one]
  rw [h.beg, e1, hf]
  simp only [wu, IntKind.wrap_i64]; omega
theorem isIt_den {ν : Env Gh} {d : SI} (h : d.den ν = 0) : pcDen ν (isIt d) :=
  pcDen_cons (lt_of (by simp only [SI.den, h, Bool.false_eq_true, iff_false]; omega)) (pcDen_one (lt_of (by simp only [SI.den, h, Bool.false_eq_true, iff_false]; omega)))
end
/-- The cells at the beginning. -/
theorem lq_start {ν : Env Gh} (F : FL ν) : LQ (lnG (List.replicate (2 * ν.i 11 + 2).toNat 0) 0 (ν.i 11) (ν.i 12) (ν.i 11)) (ν.i 11) (ν.i 12) 0 := by
  have hp := F.pow.le
  have f0 := F.f0
  have f1 := F.f1
  have hl : (lnG (List.replicate (2 * ν.i 11 + 2).toNat 0) 0 (ν.i 11) (ν.i 12) (ν.i 11)).length = (2 * ν.i 11 + 2).toNat := by rw [lnG_length, List.length_replicate]
  have hg : ∀ k : Nat, k < (2 * ν.i 11 + 2).toNat → (lnG (List.replicate (2 * ν.i 11 + 2).toNat 0) 0 (ν.i 11) (ν.i 12) (ν.i 11)).getD k 0 = if (k : Int) = 0 ∨ (k : Int) = 0 + 1 then ν.i 12
      else if 0 + 2 ≤ (k : Int) ∧ (k : Int) < 0 + 2 + 2 * ν.i 11 ∧ rnd (ν.i 11) (ν.i 12) (((k : Int) - 0 - 2) / 2) < ν.i 11 then
        (if ((k : Int) - 0) % 2 = 0 then (ν.i 12 + rnd (ν.i 11) (ν.i 12) (((k : Int) - 0 - 2) / 2)) % 18446744073709551616 else 0)
      else (List.replicate (2 * ν.i 11 + 2).toNat 0).getD k 0 := fun k hk => by
    rw [List.getD_eq_getElem?_getD, List.getElem?_eq_getElem (by omega), Option.getD_some, lnG_get]
  refine ⟨F.pow, by omega, f0, f1, by rw [hg 1 (by omega), if_pos (by omega)], by rw [hg 0 (by omega), if_pos (by omega)]; simp; omega, by omega, fun j hj => by omega, fun j _ hj => ?_⟩
  have ht := tz_lt (size := ν.i 11) (x := ν.i 12 + j) (by omega)
  have hs := Int.emod_nonneg (ν.i 12 + j) (show ν.i 11 ≠ 0 by omega)
  have hr : rnd (ν.i 11) (ν.i 12) ((((tz (ν.i 11) (ν.i 12 + j) : Nat) : Int) - 0 - 2) / 2) = j := by
    rw [show (((tz (ν.i 11) (ν.i 12 + j) : Nat) : Int) - 0 - 2) / 2 = (ν.i 12 + j) % ν.i 11 by omega]
    exact rnd_of (by omega) hj
  rw [hg _ (by omega), if_neg (by omega), hr, if_pos (by omega), if_pos (by omega)]
theorem oLaL_ok : OOK Try.prog (oLaL Try.prog) inM := by
  refine loopC_ok (n := 6000) (it := 0) pr oLa_ok (rfl : nLa = nmAt sLa) (by decide +kernel) oneLa (heads := headsL) (sums := sumsLa) (start := startLa) (h0 := hdAt headsL 0) (ghL []) rfl ?_ rfl stLa jL mL ?_ ?_ ?_ oLa_ok
  · intro i h ss hi hs c hc
    rcases twoL hi hs with ⟨rfl, rfl, rfl⟩ | ⟨rfl, rfl, rfl⟩
    · simp only [sumsLa, List.getElem?_cons_zero, Option.getD_some, List.mem_cons, List.not_mem_nil, or_false] at hc
      rcases hc with rfl | rfl | rfl
      · exact rL0_0
      · exact rL0_1
      · exact rL0_2
    · simp only [sumsLa, List.getElem?_cons_succ, List.getElem?_cons_zero, Option.getD_some, List.mem_cons, List.not_mem_nil, or_false] at hc
      rcases hc with rfl | rfl | rfl | rfl | rfl | rfl | rfl | rfl
      · exact rL1_0
      · exact rL1_1
      · exact rL1_2
      · exact rL1_3
      · exact rL1_4
      · exact rL1_5
      · exact rL1_6
      · exact rL1_7
  · intro ν hI h
    have hp : pcDen ν pcELa := bads_of h
    have F := fL hI hp
    generalize hy : Mt.vals startLa (ghL []) ν = y
    have y8 : y.l 8 = lnG (List.replicate (2 * ν.i 11 + 2).toNat 0) 0 (ν.i 11) (ν.i 12) (ν.i 11) := by
      rw [← hy]
      simp only [startLa, Mt.vals, lkp_cons, lkp_nil, Nat.reduceEqDiff, reduceIte, SL.den, SG.den, SI.den, hI]
      rfl
    have hq : LQ (y.l 8) (ν.i 11) (ν.i 12) 0 := by rw [y8]; exact lq_start F
    exact ⟨⟨_, hq⟩, hL0ok F hp hq, by constructor <;> simp [startLa]⟩
  · intro i h ss hi hs ν x hI h hJ hpc
    have hp : pcDen ν pcELa := bads_of h
    have F := fL hI hp
    have rf : RF nLa ν x (ν.at nLa x) := RF.self rfl
    have ltP : ∀ (i : SI) (b : Bool), ((ν.l 0).getD (i.den (ν.at nLa x)).toNat 0 < 100 ↔ b = true) → (putI i).den (ν.at nLa x) = b := fun i b h => lt_of (by simp only [dLa, SI.den, SL.den, rf.lo 0 (by decide)]; exact h)
    rcases twoL hi hs with ⟨rfl, rfl, rfl⟩ | ⟨rfl, rfl, rfl⟩
    · obtain ⟨b, J⟩ := hJ
      by_cases h0 : 0 < (ν.l 0).length
      · have hin : (inI (.lit 0)).den (ν.at nLa x) = true := lt_of (by simp only [SI.den, SL.den, rf.lo 0 (by decide), iff_true]; omega)
        by_cases a1 : (ν.l 0).getD ((SI.lit 0).den (ν.at nLa x)).toNat 0 < 100
        · exact ⟨_, List.mem_of_getElem? (i := 2) rfl, pcDen_cons hin (pcDen_cons (ltP _ true (by simpa using a1)) (pcDen_one (lt_of (by simp only [SI.den, iff_true]; exact dTake_none J))))⟩
        · exact ⟨_, List.mem_of_getElem? (i := 1) rfl, pcDen_cons hin (pcDen_cons (ltP _ false (by simpa using a1)) (isIt_den (dPut_room J (by have := F.pow.le; simp; omega))))⟩
      · exact ⟨_, List.mem_of_getElem? (i := 0) rfl, pcDen_one (lt_of (by simp only [SI.den, SL.den, rf.lo 0 (by decide), Bool.false_eq_true, iff_false]; omega))⟩
    · obtain ⟨b, n, J⟩ := hJ
      have r0 : (ν.at nLa x).i nLa = x.i 0 := rf.i 0 (by decide)
      have r2 : (ν.at nLa x).i (nLa + 2) = x.i 2 := rf.i 2 (by decide)
      have r3 : (ν.at nLa x).i (nLa + 3) = x.i 3 := rf.i 3 (by decide)
      have hn := J.n2
      have hc := J.cap
      have hr := J.lq.room
      have ltN : ∀ (k : Int) (b : Bool), (x.i 2 < k ↔ b = true) → (SB.lt nInLa (.lit k)).den (ν.at nLa x) = b := fun k b h => lt_of (by simp only [nInLa, SI.den, r2]; exact h)
      have ltS : ∀ (b : Bool), (x.i 2 < ν.i 11 ↔ b = true) → (SB.lt nInLa szLa).den (ν.at nLa x) = b := fun b h => lt_of (by simp only [nInLa, szLa, SI.den, r2, rf.io 11 (by decide)]; exact h)
      have ltC : ∀ (b : Bool), (x.i 3 < x.i 2 + 1 ↔ b = true) → (SB.lt (.var (nLa + 3)) (.add nInLa (.lit 1))).den (ν.at nLa x) = b := fun b h => lt_of (by simp only [nInLa, SI.den, r2, r3]; exact h)
      have ltC2 : ∀ (b : Bool), (x.i 3 < 2 ↔ b = true) → (SB.lt (.var (nLa + 3)) (.lit 2)).den (ν.at nLa x) = b := fun b h => lt_of (by simp only [SI.den, r3]; exact h)
      by_cases h0 : x.i 0 < (ν.l 0).length
      · have hin : (inI (.var nLa)).den (ν.at nLa x) = true := lt_of (by simp only [SI.den, SL.den, rf.lo 0 (by decide), r0, iff_true]; exact h0)
        by_cases e : (ν.l 0).getD ((SI.var nLa).den (ν.at nLa x)).toNat 0 < 100
        · have he := ltP (.var nLa) true (by simpa using e)
          by_cases a1 : x.i 2 < 1
          · obtain rfl : n = 0 := by omega
            exact ⟨_, List.mem_of_getElem? (i := 4) rfl, pcDen_cons hin (pcDen_cons he (pcDen_cons (ltN 1 true (by simpa using a1)) (pcDen_one (lt_of (by simp only [SI.den, iff_true]; exact dTake_none J.lq)))))⟩
          · obtain ⟨k, rfl⟩ : ∃ k, n = k + 1 := ⟨n - 1, by omega⟩
            have hd := isIt_den (dTake_any J.lq)
            by_cases a2 : x.i 2 < 2
            · by_cases a3 : x.i 3 < 2
              · exact ⟨_, List.mem_of_getElem? (i := 5) rfl, pcDen_cons hin (pcDen_cons he (pcDen_cons (ltN 1 false (by simpa using a1)) (pcDen_cons (ltN 2 true (by simpa using a2)) (pcDen_cons (ltC2 true (by simpa using a3)) hd))))⟩
              · exact ⟨_, List.mem_of_getElem? (i := 6) rfl, pcDen_cons hin (pcDen_cons he (pcDen_cons (ltN 1 false (by simpa using a1)) (pcDen_cons (ltN 2 true (by simpa using a2)) (pcDen_cons (ltC2 false (by simpa using a3)) hd))))⟩
            · exact ⟨_, List.mem_of_getElem? (i := 7) rfl, pcDen_cons hin (pcDen_cons he (pcDen_cons (ltN 2 false (by simpa using a2)) hd))⟩
        · have he := ltP (.var nLa) false (by simpa using e)
          by_cases a1 : x.i 2 < ν.i 11
          · have hd := isIt_den (dPut_room J.lq (by omega))
            by_cases a2 : x.i 3 < x.i 2 + 1
            · exact ⟨_, List.mem_of_getElem? (i := 2) rfl, pcDen_cons hin (pcDen_cons he (pcDen_cons (ltS true (by simpa using a1)) (pcDen_cons (ltC true (by simpa using a2)) hd)))⟩
            · exact ⟨_, List.mem_of_getElem? (i := 1) rfl, pcDen_cons hin (pcDen_cons he (pcDen_cons (ltS true (by simpa using a1)) (pcDen_cons (ltC false (by simpa using a2)) hd)))⟩
          · exact ⟨_, List.mem_of_getElem? (i := 3) rfl, pcDen_cons hin (pcDen_cons he (pcDen_cons (ltS false (by simpa using a1)) (pcDen_one (lt_of (by simp only [SI.den, iff_true]; exact dPut_full J.lq (by omega) F.le)))))⟩
      · exact ⟨_, List.mem_of_getElem? (i := 0) rfl, pcDen_one (lt_of (by simp only [SI.den, SL.den, rf.lo 0 (by decide), r0]; simpa using h0))⟩
  · intro i h ss hi hs c hc t ht ν x ν2 hI h hJ hpc hq rf h2
    have hp : pcDen ν pcELa := bads_of h
    have F := fL hI hp
    refine finL F hp ?_
    have rfa : RF nLa ν x (ν.at nLa x) := RF.self rfl
    rcases twoL hi hs with ⟨rfl, rfl, rfl⟩ | ⟨rfl, rfl, rfl⟩
    · obtain ⟨b, J⟩ := hJ
      have hin : (inI (.lit 0)).den (ν.at nLa x) = true → 0 < (ν.l 0).length := fun hh => by
        have := (lt_den hh).2 rfl
        simp only [SI.den, SL.den, rfa.lo 0 (by decide)] at this
        omega
      simp only [sumsLa, List.getElem?_cons_zero, Option.getD_some, List.mem_cons, List.not_mem_nil, or_false] at hc
      rcases hc with rfl | rfl | rfl
      · exact exitL0 ht
      · exact w0_1 hI F rf (hin (pcAt hq 0 rfl)) J t ht h2
      · exact w0_2 hI F rf (hin (pcAt hq 0 rfl)) J t ht h2
    · obtain ⟨b, n, J⟩ := hJ
      have r0 : (ν.at nLa x).i nLa = x.i 0 := rfa.i 0 (by decide)
      have r2 : (ν.at nLa x).i (nLa + 2) = x.i 2 := rfa.i 2 (by decide)
      have r3 : (ν.at nLa x).i (nLa + 3) = x.i 3 := rfa.i 3 (by decide)
      have hn := J.n2
      have hcap := J.cap
      have hin : (inI (.var nLa)).den (ν.at nLa x) = true → x.i 0 < (ν.l 0).length := fun hh => by
        have := (lt_den hh).2 rfl
        simpa only [SI.den, SL.den, rfa.lo 0 (by decide), r0] using this
      have ltN : ∀ (k : Int) (b : Bool), (SB.lt nInLa (.lit k)).den (ν.at nLa x) = b → (x.i 2 < k ↔ b = true) := fun k b h => by
        have := lt_den h
        simpa only [nInLa, SI.den, r2] using this
      have ltS : ∀ (b : Bool), (SB.lt nInLa szLa).den (ν.at nLa x) = b → (x.i 2 < ν.i 11 ↔ b = true) := fun b h => by
        have := lt_den h
        simpa only [nInLa, szLa, SI.den, r2, rfa.io 11 (by decide)] using this
      have ltC : ∀ (b : Bool), (SB.lt (.var (nLa + 3)) (.add nInLa (.lit 1))).den (ν.at nLa x) = b → (x.i 3 < x.i 2 + 1 ↔ b = true) := fun b h => by
        have := lt_den h
        simpa only [nInLa, SI.den, r2, r3] using this
      simp only [sumsLa, List.getElem?_cons_succ, List.getElem?_cons_zero, Option.getD_some, List.mem_cons, List.not_mem_nil, or_false] at hc
      rcases hc with rfl | rfl | rfl | rfl | rfl | rfl | rfl | rfl
      · exact exitL1 ht
      · have a1 := ltS true (pcAt hq 2 rfl)
        have a2 := ltC false (pcAt hq 3 rfl)
        simp only [Bool.false_eq_true, iff_false, iff_true] at a1 a2
        exact w1_1 hI F rf (hin (pcAt hq 0 rfl)) J a1 (by omega) t ht h2
      · have a1 := ltS true (pcAt hq 2 rfl)
        simp only [iff_true] at a1
        exact w1_2 hI F rf (hin (pcAt hq 0 rfl)) J a1 t ht h2
      · exact w1_3 hI F rf (hin (pcAt hq 0 rfl)) J t ht h2
      · exact w1_4 hI F rf (hin (pcAt hq 0 rfl)) J t ht h2
      · have a1 := ltN 1 false (pcAt hq 2 rfl)
        have a2 := ltN 2 true (pcAt hq 3 rfl)
        simp only [Bool.false_eq_true, iff_false, iff_true] at a1 a2
        obtain rfl : n = 0 + 1 := by omega
        exact w1_5 hI F rf (hin (pcAt hq 0 rfl)) J t ht h2
      · have a1 := ltN 1 false (pcAt hq 2 rfl)
        have a2 := ltN 2 true (pcAt hq 3 rfl)
        simp only [Bool.false_eq_true, iff_false, iff_true] at a1 a2
        obtain rfl : n = 0 + 1 := by omega
        exact w1_6 hI F rf (hin (pcAt hq 0 rfl)) J t ht h2
      · have a2 := ltN 2 false (pcAt hq 2 rfl)
        simp only [Bool.false_eq_true, iff_false] at a2
        obtain ⟨k, rfl⟩ : ∃ k, n = k + 1 := ⟨n - 1, by omega⟩
        exact w1_7 hI F rf (hin (pcAt hq 0 rfl)) J t ht h2
end Go.Proofs.Ytlmenjenkpnacaa
end

section
namespace Go.Proofs.Ytlmenjenkpnacaa
open Go Go.Sy Go.RowKit

def argsLaV (v : SV) : List SV := [.int .i64 (.var 11), .int .u64 (.var 12), v]
def viewLa : SV := .sl 0 (.var 8) (.len (.var 0)) (.var 9)
def pvLa : PC := [(.lt (.var 8) (.lit 0), false), (.lt (.var 9) (.len (.var 0)), false)]
def powLa : PC := [(powB (.var 11), true), (.lt (.var 11) (.lit 2), false), (.lt (.lit 256) (.var 11), false)]
/-- sizes that may not be, or of more than 32 slots: nothing is said; more than 100 deeds: nothing either. -/
def noLa (pv : PC) : PC := (powB (.var 11), false) :: pv
def bigLa (pv : PC) : PC := (.lt (.lit 32) (.var 11), true) :: (powLa ++ pv)
def manyLa (pv : PC) : PC := (.lt (.lit 32) (.var 11), false) :: (.lt (.lit 100) (.len (.var 0)), true) :: (powLa ++ pv)
def fewLa : PC := (.lt (.lit 32) (.var 11), false) :: powLa
end Go.Proofs.Ytlmenjenkpnacaa
end

section
namespace Go.Proofs.Ytlmenjenkpnacaa
open Go Go.Sy Go.RowKit

def ouLa : List CLeaf := [
  ⟨false, (.bool (.lit false)), [((.lit false), true), ((.eq (.len (.gl 0 (.app 46 (.var 0) (.var 0) (.lit 0) (.var 11) (.var 12) (.var 11) (.rep (.add (.mul (.lit 2) (.var 11)) (.lit 2)) (.lit 0))) (.lit 0) (.lit 0))) (.add (.mul (.lit 2) (.var 11)) (.lit 2))), true), ((.eq (.nth (.gl 0 (.app 46 (.var 0) (.var 0) (.lit 0) (.var 11) (.var 12) (.var 11) (.rep (.add (.mul (.lit 2) (.var 11)) (.lit 2)) (.lit 0))) (.lit 0) (.lit 0)) (.lit 0)) (.var 12)), true), ((.eq (.nth (.gl 0 (.app 46 (.var 0) (.var 0) (.lit 0) (.var 11) (.var 12) (.var 11) (.rep (.add (.mul (.lit 2) (.var 11)) (.lit 2)) (.lit 0))) (.lit 0) (.lit 0)) (.lit 1)) (.var 12)), true), ((.lt (.var 8) (.lit 0)), false), ((.lt (.var 9) (.len (.var 0))), false), ((.lt (.var 11) (.lit 2)), false), ((.lt (.lit 32) (.var 11)), false), ((.or (.eq (.var 11) (.lit 2)) (.or (.eq (.var 11) (.lit 4)) (.or (.eq (.var 11) (.lit 8)) (.or (.eq (.var 11) (.lit 16)) (.or (.eq (.var 11) (.lit 32)) (.or (.eq (.var 11) (.lit 64)) (.or (.eq (.var 11) (.lit 128)) (.eq (.var 11) (.lit 256))))))))), true), ((.lt (.lit 100) (.len (.var 0))), false), ((.lt (.var 12) (.lit 0)), false), ((.lt (.lit 18446744073709551615) (.var 12)), false), ((.gb 0 (.app 45 (.var 0) (.var 0) (.lit 0) (.lit 255) (.lit 0) (.lit 0) (.var 0)) (.lit 0) (.lit 0)), true)], []⟩]
def restLa : List (Bool × SV × PC) := ouLa.map fun c => (c.bad, c.v, c.pc)
theorem runLa : restOf (runX Try.prog (oLaL Try.prog) fLa (argsLaV viewLa) pcLa hpLa) = some restLa := by kernel_rfl
theorem runLaNo : restOf (runX Try.prog (oLa Try.prog) fLa (argsLaV viewLa) (noLa pvLa) hpLa) = some [] := by kernel_rfl
theorem runLaBig : restOf (runX Try.prog (oLa Try.prog) fLa (argsLaV viewLa) (bigLa pvLa) hpLa) = some [] := by kernel_rfl
theorem runLaMany : restOf (runX Try.prog (oLa Try.prog) fLa (argsLaV viewLa) (manyLa pvLa) hpLa) = some [] := by kernel_rfl
theorem runLaN1 : restOf (runX Try.prog (oLa Try.prog) fLa (argsLaV .nilSl) (noLa []) []) = some [] := by kernel_rfl
theorem runLaN2 : restOf (runX Try.prog (oLa Try.prog) fLa (argsLaV .nilSl) (bigLa []) []) = some [] := by kernel_rfl
theorem runLaN3 : restOf (runX Try.prog (oLa Try.prog) fLa (argsLaV .nilSl) fewLa []) = some [] := by kernel_rfl
theorem runLaE1 : restOf (runX Try.prog (oLa Try.prog) fLa (argsLaV (.emp 0)) (noLa []) []) = some [] := by kernel_rfl
theorem runLaE2 : restOf (runX Try.prog (oLa Try.prog) fLa (argsLaV (.emp 0)) (bigLa []) []) = some [] := by kernel_rfl
theorem runLaE3 : restOf (runX Try.prog (oLa Try.prog) fLa (argsLaV (.emp 0)) fewLa []) = some [] := by kernel_rfl
theorem restLa_no (x : Bool × SV × PC) (hx : x ∈ restLa) {ν : Env Gh} (hp : pcDen ν x.2.2) : False := by
  simp only [restLa, ouLa, List.map_cons, List.map_nil, List.mem_cons, List.not_mem_nil, or_false] at hx
  subst hx
  have := pcAt hp 0 rfl
  simp [SB.den] at this
/-- what is known of the size -/
theorem noLa_den {ν : Env Gh} {pv : PC} (hv : pcDen ν pv) (h : ¬ Pow (ν.i 11)) : pcDen ν (noLa pv) := by
  refine pcDen_cons ?_ hv
  cases hr : (powB (.var 11)).den ν
  · rfl
  · exact absurd ((powB_den ν (.var 11)).1 hr) h
theorem powLa_den {ν : Env Gh} (h : Pow (ν.i 11)) : pcDen ν powLa := by
  have := h.le
  exact pcDen_cons ((powB_den ν (.var 11)).2 h) (pcDen_cons (lt_of (by simp only [SI.den]; simp; omega)) (pcDen_one (lt_of (by simp only [SI.den]; simp; omega))))
theorem bigLa_den {ν : Env Gh} {pv : PC} (hv : pcDen ν pv) (h : Pow (ν.i 11)) (h2 : 32 < ν.i 11) : pcDen ν (bigLa pv) :=
  pcDen_cons (lt_of (by simp only [SI.den]; simpa using h2)) (pcDen_append (powLa_den h) hv)
theorem fewLa_den {ν : Env Gh} (h : Pow (ν.i 11)) (h2 : ¬ 32 < ν.i 11) : pcDen ν fewLa :=
  pcDen_cons (lt_of (by simp only [SI.den]; simpa using h2)) (powLa_den h)
theorem la_calls (W : World) (ν : Env Gh) (hI : ν.I = inM) (g : Nat) (hg : g < W.heap.size) (h8 : 0 ≤ ν.i 8) (h9 : ((ν.l 0).length : Int) ≤ ν.i 9) (f0 : 0 ≤ ν.i 12) (f1 : ν.i 12 ≤ 18446744073709551615) (hr : ∀ x ∈ ν.l 0, 0 ≤ x ∧ x ≤ 255)
    (hcell : ∀ (j : Nat) (x : Int), (ν.l 0)[j]? = some x → W.cell? ⟨g, (ν.i 8).toNat + j, none⟩ = some (.int .u8 x)) : Calls Try.prog fLa (denL ν (fun _ => g) (argsLaV viewLa)).toArray W fun e w' => e = .returned (.bool true) ∧ Below W.heap.size W w' := by
  have hw : HW (baseOf W) ν (fun _ => g) hpLa W := (HW.empty _ _ _).addView (by simp) (by rw [baseOf_own]; omega) (by simpa only [SI.den] using h8) (by simpa [SI.den, SL.den, baseOf] using hcell)
  have hv : pcDen ν pvLa := pcDen_cons (lt_of (by simp only [SI.den]; simp; omega)) (pcDen_one (lt_of (by simp only [SI.den, SL.den]; simp; omega)))
  by_cases h1 : Pow (ν.i 11)
  · by_cases h2 : 32 < ν.i 11
    · exact law_auto pr oLa_ok runLaBig W ν (fun _ => g) hI (bigLa_den hv h1 h2) hw
    · by_cases h3 : 100 < (ν.l 0).length
      · exact law_auto pr oLa_ok runLaMany W ν (fun _ => g) hI (pcDen_cons (lt_of (by simp only [SI.den]; simpa using h2)) (pcDen_cons (lt_of (by simp only [SI.den, SL.den]; simp; omega)) (pcDen_append (powLa_den h1) hv))) hw
      · have hle := h1.le
        refine law_rest pr oLaL_ok runLa W ν (fun _ => g) hI ?_ hw fun x hx ν' ρ' hag hp => (restLa_no x hx hp).elim
        refine pcDen_cons (lt_of (by simp only [SI.den]; simp; omega)) (pcDen_cons (lt_of (by simp only [SI.den, SL.den]; simp; omega)) (pcDen_cons (lt_of (by simp only [SI.den]; simp; omega)) (pcDen_cons (lt_of (by simp only [SI.den]; simpa using h2)) (pcDen_cons ((powB_den ν (.var 11)).2 h1) (pcDen_cons (lt_of (by simp only [SI.den, SL.den]; simp; omega)) (pcDen_cons (lt_of (by simp only [SI.den]; simp; omega)) (pcDen_cons (lt_of (by simp only [SI.den]; simp; omega)) (pcDen_one ((range_den hI (.var 0) 0 255).2 hr)))))))))
  · exact law_auto pr oLa_ok runLaNo W ν (fun _ => g) hI (noLa_den hv h1) hw
theorem la_nil (W : World) (ν : Env Gh) (hI : ν.I = inM) : Calls Try.prog fLa (denL ν (fun _ => 0) (argsLaV .nilSl)).toArray W fun e w' => e = .returned (.bool true) ∧ Below W.heap.size W w' := by
  by_cases h1 : Pow (ν.i 11)
  · by_cases h2 : 32 < ν.i 11
    · exact law_auto pr oLa_ok runLaN2 W ν (fun _ => 0) hI (bigLa_den (pcDen_nil _) h1 h2) (HW.empty _ _ _)
    · exact law_auto pr oLa_ok runLaN3 W ν (fun _ => 0) hI (fewLa_den h1 h2) (HW.empty _ _ _)
  · exact law_auto pr oLa_ok runLaN1 W ν (fun _ => 0) hI (noLa_den (pcDen_nil _) h1) (HW.empty _ _ _)
theorem la_emp (W : World) (ν : Env Gh) (hI : ν.I = inM) : Calls Try.prog fLa (denL ν (fun _ => 0) (argsLaV (.emp 0))).toArray W fun e w' => e = .returned (.bool true) ∧ Below W.heap.size W w' := by
  by_cases h1 : Pow (ν.i 11)
  · by_cases h2 : 32 < ν.i 11
    · exact law_auto pr oLa_ok runLaE2 W ν (fun _ => 0) hI (bigLa_den (pcDen_nil _) h1 h2) (HW.empty _ _ _)
    · exact law_auto pr oLa_ok runLaE3 W ν (fun _ => 0) hI (fewLa_den h1 h2) (HW.empty _ _ _)
  · exact law_auto pr oLa_ok runLaE1 W ν (fun _ => 0) hI (noLa_den (pcDen_nil _) h1) (HW.empty _ _ _)
end Go.Proofs.Ytlmenjenkpnacaa
end

section
namespace Go.Proofs.Ytlmenjenkpnacaa
open Go.ChangeShapes Go.WideShapes Go.ChangeAt Go.RowKit Go.Sy

theorem cellsU8 : Try.prog.cellsOf 5 = 1 := by kernel_rfl
def envG (i : Nat → Int) (l : Nat → List Int) : Env Gh := ⟨inM, fun _ => ghL [], i, fun _ => false, fun _ => .bool false, l, noAddr, fun _ => rfl⟩
def laI (s f o cap : Int) : Nat → Int | 11 => s | 12 => f | 8 => o | 9 => cap | _ => 0
theorem wf_u8 {x : Int} (h : (Lit.int .u8 x).wf = true) : 0 ≤ x ∧ x ≤ 255 := by
  simp only [Lit.wf, Bool.and_eq_true, decide_eq_true_eq, IntKind.min, IntKind.max, IntKind.bits, IntKind.signed] at h
  simpa using h
theorem wf_u64 {x : Int} (h : (Lit.int .u64 x).wf = true) : 0 ≤ x ∧ x ≤ 18446744073709551615 := by
  simp only [Lit.wf, Bool.and_eq_true, decide_eq_true_eq, IntKind.min, IntKind.max, IntKind.bits, IntKind.signed] at h
  simpa using h

set_option maxRecDepth 100000 in
theorem laneAlone_lifted (os : Os) (started : os.Started) (H : Type) (enc : TypeId × Value → H) :
    ReturnsInHanded {} Try.checked os 7 .any (Rows.laneAloneSpec.pre6 enc Try.prog Try.f7 Rows.laneAloneRow.domain false) (Rows.laneAloneSpec.post enc Try.prog Try.f7 false true false false) := by
  refine law_lifted (C := Try.checked) facts own started (by kernel_rfl) Try.func7
    (ChangeSpec.witness6 (enc := enc) (C := Try.checked) false ⟨#[], #[.int .i64 0, .int .u64 0, .slice none 0 0], []⟩ 8 (by kernel_rfl) (by kernel_rfl) (by kernel_rfl) (by kernel_rfl)) rfl (fun ds h => ?_) Try.underlying4 (by kernel_rfl) (by kernel_rfl) fun W base args ds p hval hA hlt => ?_
  · rw [Try.params7] at h
    match ds, h with
    | [d, e, f], _ => rfl
  rw [Try.params7] at hA hval
  obtain ⟨v0, v1, v2, d0, d1, d2, p0, p1, p2, rfl, rfl, rfl, h0, h1, h2⟩ := trodAll_three hA
  obtain ⟨s, rfl, _, _⟩ := open_int Try.underlying3 (hval 0 3 v0 rfl rfl) h0
  obtain ⟨f, rfl, _, _, w1⟩ := open_int Try.underlying53 (hval 1 53 v1 rfl rfl) h1
  have hf := wf_u64 w1
  rcases arg_ints Try.underlying43 Try.underlying5 cellsU8 (hval 2 43 v2 rfl rfl) h2 with rfl | ⟨ad, rfl⟩ | ⟨g, o, cap, xs, rfl, hg, hcap, _, hcell, hwf⟩
  · exact la_nil W (envG (laI s f 0 0) (fun _ => [])) rfl
  · exact la_emp W ⟨inM, fun _ => ghL [], laI s f 0 0, fun _ => false, fun _ => .bool false, fun _ => [], fun _ => ad, fun _ => rfl⟩ rfl
  · exact la_calls W (envG (laI s f o cap) (fun _ => xs)) rfl g hg (by simp [envG, laI]) (by simp only [envG, laI]; omega) hf.1 hf.2 (fun x hx => wf_u8 (hwf x hx)) (by simpa [envG, laI] using hcell)

theorem laneAlone_joined : joinedFacts Try.prog 7 Try.f7 Rows.laneAloneSpec Rows.laneAloneRow = true :=
  joined_of facts (by kernel_rfl) ⟨rfl, rfl, rfl, rfl, rfl, rfl⟩ (by kernel_rfl) (by kernel_rfl) (by kernel_rfl) (by kernel_rfl) (by kernel_rfl) (by kernel_rfl) (by kernel_rfl) ⟨by kernel_rfl, by kernel_rfl⟩ (by kernel_rfl)

theorem laneAlone_holds : Rows.LaneAloneSaid :=
  OpenClaim.holds_of_wide 7 Try.f7 rfl rfl rfl rfl rfl rfl rfl ⟨rfl, rfl, rfl, rfl, rfl⟩ rfl rfl rfl rfl rfl (by kernel_rfl) Try.func7 laneAlone_joined
    (of_decide_eq_true (by kernel_rfl)) (by unfold Func.isWrapper; first | (rw [if_pos (by decide +kernel)]; kernel_rfl) | (rw [if_neg (by decide +kernel)]; exact ⟨rfl, rfl⟩))
    (fun os started H enc _ => laneAlone_lifted os started H enc)
#print axioms laneAlone_holds
end Go.Proofs.Ytlmenjenkpnacaa
end
