/- ArenaAlone's second loop as a contract. -/
import Derived.Test.YtoogepoalbhlhaaLwXD
import Derived.Test.YtoogepoalbhlhaaLwAaR1
import Derived.Test.YtoogepoalbhlhaaLwAaR2
import Derived.Test.YtoogepoalbhlhaaLwAaR3
import Derived.Test.YtoogepoalbhlhaaLwAaR4
import Derived.Test.YtoogepoalbhlhaaLwAaR5
import Derived.Test.YtoogepoalbhlhaaLwXA
import Derived.Test.YtoogepoalbhlhaaLwXB
import Derived.Test.YtoogepoalbhlhaaLwXC
set_option linter.unusedVariables false
set_option linter.unusedSimpArgs false

section
namespace Go.Proofs.Ytoogepoalbhlhaa
open Go Go.Sy Go.RowKit

def bAaL : PC := pcEAa.map fun x => (x.1, !x.2)
theorem eFa_fr : (eFa Try.prog).fr = (hdAt entFa 0).fr := by kernel_rfl
theorem eFa_hp : (eFa Try.prog).hp = (hdAt entFa 0).hp := by kernel_rfl
theorem gFa_eq : gFa Try.prog = tgF := by kernel_rfl
theorem pcEFa_eq : (eFa Try.prog).pc = pcEFa := by kernel_rfl
theorem oFa_ok : OOK Try.prog (oFa Try.prog) inM := by
  have e : oFa Try.prog = oFaL Try.prog := by
    unfold oFa oFaL
    rw [gFa_eq, pcEFa_eq, eFa_fr, eFa_hp]
  rw [e]
  exact oFaL_ok
def sumsA : List (List (PC × List SumT)) := [[(qAt cases0A 0, a0_0), (qAt cases0A 1, a0_1), (qAt cases0A 2, a0_2)], [(qAt cases1A 0, a1_0), (qAt cases1A 1, a1_1), (qAt cases1A 2, a1_2), (qAt cases1A 3, a1_3), (qAt cases1A 4, a1_4), (qAt cases1A 5, a1_5), (qAt cases1A 6, a1_6), (qAt cases1A 7, a1_7), (qAt cases1A 8, a1_8), (qAt cases1A 9, a1_9), (qAt cases1A 10, a1_10)]]
def entA0 : Tgt := hdAt entAa 0
theorem oneAa : (loopsAt Try.prog fAa 16).length = 1 := by kernel_rfl
theorem stAa : mAll nAa 0 0 Try.prog entA0.fr entA0.hp (hdAt headsA 0).fr (hdAt headsA 0).hp = some startAa := by kernel_rfl
attribute [local irreducible] nmAt
/-- the arena as Init lays it, the free ones n, .., 1 -/
theorem AR.init {N : Int} (h1 : 1 ≤ N) (h2 : N ≤ 1000) : AR N (iG (List.replicate (N + 1).toNat 0) 0 N 1 (N + 1)) (fG N 0) [] := by
  have hl : (fG N 0).length = N.toNat := by rw [fG_length]; omega
  have hf : ∀ k, k < N.toNat → (fG N 0).getD k 0 = N - k := fun k hk => by
    simp [fG, List.getD_eq_getElem?_getD, hk]
  have hi : ∀ j : Nat, j < (N + 1).toNat → (iG (List.replicate (N + 1).toNat 0) 0 N 1 (N + 1)).getD j 0 = if (j : Int) = 0 then 1 else if (j : Int) < N then (j : Int) + 1 else 0 := fun j hj => by
    have hj' : j < (iG (List.replicate (N + 1).toNat 0) 0 N 1 (N + 1)).length := by rw [iG_length]; simpa using hj
    rw [List.getD_eq_getElem?_getD, List.getElem?_eq_getElem hj', Option.getD_some, iG_get]
    by_cases c : (j : Int) = 0
    · rw [if_pos c, if_pos c, if_pos h1]
    · rw [if_neg c, if_neg c, if_pos (by omega)]
      by_cases c2 : (j : Int) < N
      · rw [if_pos c2, if_pos (by omega)]; omega
      · rw [if_neg c2, if_neg (by omega)]
  have pad : ∀ k, k < N.toNat → ((0 : Int) :: fG N 0).getD (k + 1) 0 = N - k := fun k hk => hf k hk
  have wr : ∀ z : Int, 0 ≤ z → z < 4294967296 → IntKind.u32.wrap z = z := fun z a b => by rw [wrap32]; omega
  refine ⟨?_, ?_, fun k hk => ?_, fun x hx => ?_, ?_, ?_⟩
  · rw [iG_length]; simp; omega
  · rw [hi 0 (by omega), hl]
    obtain ⟨n, hn⟩ : ∃ n, N.toNat = n + 1 := ⟨N.toNat - 1, by omega⟩
    rw [hn, pad n (by omega), if_pos (show ((0 : Nat) : Int) = 0 from rfl), wr 1 (by omega) (by omega)]
    omega
  · rw [hl] at hk
    rw [hf k hk, hi _ (by omega), if_neg (by omega)]
    cases k with
    | zero => rw [if_neg (by omega)]; rfl
    | succ k =>
      rw [if_pos (by omega), pad k (by omega), wrap32]
      omega
  · rw [List.append_nil] at hx
    simp only [fG, List.mem_map, List.mem_range] at hx
    obtain ⟨k, hk, rfl⟩ := hx
    omega
  · rw [List.append_nil]
    unfold fG
    refine List.Pairwise.map _ (fun a b hab => ?_) List.nodup_range
    omega
  · rw [hl]; simp; omega
theorem gl22_den {ν : Env Gh} (hI : ν.I = inM) (a b c d : SI) (l : SL) : (SL.gl 0 (.app 22 (.var 0) (.var 0) a b c d l) (.lit 0) (.lit 0)).den ν = iG (l.den ν) (a.den ν) (b.den ν) (c.den ν) (d.den ν) := by
  simp [SL.den, SG.den, hI, inM, ghL]
theorem gl23_den {ν : Env Gh} (hI : ν.I = inM) (a b c d : SI) (l : SL) : (SL.gl 0 (.app 23 (.var 0) (.var 0) a b c d l) (.lit 0) (.lit 0)).den ν = fG (a.den ν) (b.den ν) := by
  simp [SL.den, SG.den, hI, inM, ghL]
theorem startJ {ν : Env Gh} (hI : ν.I = inM) (h : pcDen ν pcEAa) : JP ν (Mt.vals startAa (ghL []) ν) [] := by
  have F := fA2 hI h
  have F1 := F.n1
  have F2 := F.n2
  have c := lt_den (pcAt h 0 rfl)
  simp only [SI.den, gl23_den hI, fG_length, Bool.false_eq_true, iff_false] at c
  generalize hy : Mt.vals startAa (ghL []) ν = y
  have y1 : y.i 1 = 0 := by rw [← hy]; simp only [startAa, Mt.vals, lkp_cons, lkp_nil, Nat.reduceEqDiff, reduceIte, SI.den]
  have y2 : y.i 2 = ν.i 11 := by rw [← hy]; simp only [startAa, Mt.vals, lkp_cons, lkp_nil, Nat.reduceEqDiff, reduceIte, SI.den, gl23_den hI, fG_length]; omega
  have y3 : y.i 3 = ν.i zLwAaT4 := by rw [← hy]; simp only [startAa, Mt.vals, lkp_cons, lkp_nil, Nat.reduceEqDiff, reduceIte, SI.den]
  have y4 : y.i 4 = ν.i zLwAaT4 := by rw [← hy]; simp only [startAa, Mt.vals, lkp_cons, lkp_nil, Nat.reduceEqDiff, reduceIte, SI.den]
  have y9 : y.l 9 = fG (ν.i 11) 0 := by rw [← hy]; simp only [startAa, Mt.vals, lkp_cons, lkp_nil, Nat.reduceEqDiff, reduceIte, SI.den, gl23_den hI]
  have y8 : y.l 8 = iG (List.replicate (ν.i 11 + 1).toNat 0) 0 (ν.i 11) 1 (ν.i 11 + 1) := by rw [← hy]; simp only [startAa, Mt.vals, lkp_cons, lkp_nil, Nat.reduceEqDiff, reduceIte]; rw [gl22_den hI]; simp only [SI.den, SL.den]
  have l9 : (y.l 9).length = (ν.i 11).toNat := by rw [y9, fG_length]; omega
  refine ⟨?_, y1, by omega, by omega, by omega, by omega, by omega⟩
  rw [List.take_of_length_le (by omega), y8, y9]
  exact AR.init F1 (by omega)
theorem exitA0 {ν ν2 : Env Gh} {m0 : Nat} {t : SumT} (ht : t ∈ a0_0) : GA ν ν2 m0 t := by
  simp only [a0_0, List.mem_cons, List.not_mem_nil, or_false] at ht
  subst ht
  exact ⟨rfl, by constructor <;> simp⟩
theorem exitA1 {ν ν2 : Env Gh} {m0 : Nat} {t : SumT} (ht : t ∈ a1_0) : GA ν ν2 m0 t := by
  simp only [a1_0, List.mem_cons, List.not_mem_nil, or_false] at ht
  subst ht
  exact ⟨rfl, by constructor <;> simp⟩
def oAaL (P : Program) : Orac := (oFa P).withLoop fAa 16 nAa entA0.fr entA0.hp (mkM nAa tgA bAaL)
def jA (i : Nat) (ν : Env Gh) (x : Vals Gh) : Prop := match i with
  | 0 => JP ν x []
  | _ => JQ ν x
def mA (i : Nat) (ν : Env Gh) (x : Vals Gh) : Nat := match i with
  | 0 => (ν.l 0).length + 1
  | _ => mA1 ν x
theorem two_headsA {i : Nat} {h : Tgt} {ss : List (PC × List SumT)} (hi : headsA[i]? = some h) (hs : sumsA[i]? = some ss) : (i = 0 ∧ h = hdAt headsA 0 ∧ ss = (sumsA[0]?).getD []) ∨ (i = 1 ∧ h = hdAt headsA 1 ∧ ss = (sumsA[1]?).getD []) := by
  have hlt : i < 2 := (List.getElem?_eq_some_iff.1 hs).1
  match i, hlt with
  | 0, _ => exact .inl ⟨rfl, by unfold hdAt; rw [hi]; rfl, by rw [hs]; rfl⟩
  | 1, _ => exact .inr ⟨rfl, by unfold hdAt; rw [hi]; rfl, by rw [hs]; rfl⟩
theorem finA {ν ν2 : Env Gh} {x : Vals Gh} {t : SumT} {i : Nat} (F : FA ν) (hp : pcDen ν pcEAa) (h : GA ν ν2 (mA i ν x) t) : match t.ex with
      | .normal => ∀ g, headsA[t.k]? = some g → jA t.k ν (t.mt.vals (ghL []) ν2) ∧ pcDen (ν.at nAa (t.mt.vals (ghL []) ν2)) g.pc ∧ mA t.k ν (t.mt.vals (ghL []) ν2) < mA i ν x ∧ t.mt.Owed ν2 (ν.at nAa (t.mt.vals (ghL []) ν2))
      | .bad => False
      | _ => (∀ g, tgA[t.k]? = some g → pcDen (ν.at nAa (t.mt.vals (ghL []) ν2)) g.pc) ∧ t.mt.Owed ν2 (ν.at nAa (t.mt.vals (ghL []) ν2)) := by
  unfold GA at h
  revert h
  cases t.ex with
  | normal =>
    rintro ⟨hk, J, hm, ho⟩ g hg
    rw [hk] at hg ⊢
    have e : g = hdAt headsA 1 := by unfold hdAt; rw [hg]; rfl
    subst e
    exact ⟨J, h1okA F hp J, hm, ho⟩
  | bad => exact fun h => h
  | ret => exact fun h => h.elim
  | exit j =>
    rintro ⟨hk, ho⟩
    refine ⟨fun g hg => ?_, ho⟩
    rw [hk] at hg
    cases hg
    exact pcDen_nil _
theorem oAaL_ok : OOK Try.prog (oAaL Try.prog) inM := by
  refine loopC_ok (n := 6000) (it := 0) pr oFa_ok (rfl : nAa = nmAt 16) (by decide +kernel) oneAa (heads := headsA) (sums := sumsA) (start := startAa) (h0 := hdAt headsA 0) (ghL []) rfl ?_ rfl stAa jA mA ?_ ?_ ?_ oFa_ok
  · intro i h ss hi hs c hc
    rcases two_headsA hi hs with ⟨rfl, rfl, rfl⟩ | ⟨rfl, rfl, rfl⟩
    · simp only [sumsA, List.getElem?_cons_zero, Option.getD_some, List.mem_cons, List.not_mem_nil, or_false] at hc
      rcases hc with rfl | rfl | rfl
      · exact rA0_0
      · exact rA0_1
      · exact rA0_2
    · simp only [sumsA, List.getElem?_cons_succ, List.getElem?_cons_zero, Option.getD_some, List.mem_cons, List.not_mem_nil, or_false] at hc
      rcases hc with rfl | rfl | rfl | rfl | rfl | rfl | rfl | rfl | rfl | rfl | rfl
      · exact rA1_0
      · exact rA1_1
      · exact rA1_2
      · exact rA1_3
      · exact rA1_4
      · exact rA1_5
      · exact rA1_6
      · exact rA1_7
      · exact rA1_8
      · exact rA1_9
      · exact rA1_10
  · intro ν hI h
    have hp := bads_of h
    have J := startJ hI hp
    exact ⟨J, h0okA (fA2 hI hp) hp J, by constructor <;> simp [startAa]⟩
  · intro i h ss hi hs ν x hI h hJ hpc
    have hp := bads_of h
    have F := fA2 hI hp
    have rf : RF nAa ν x (ν.at nAa x) := RF.self rfl
    have r2 : (ν.at nAa x).i (nAa + 2) = x.i 2 := rf.i 2 (by decide)
    have r8 : (ν.at nAa x).l (nAa + 8) = x.l 8 := rf.l 8 (by decide)
    have c2 : ∀ (b : Bool), (x.i 2 < 1 ↔ b = true) → (SB.lt (.var (nAa + 2)) (.lit 1)).den (ν.at nAa x) = b := fun b h => lt_of (by simp only [SI.den, r2]; exact h)
    have cl : ∀ (b : Bool), (IntKind.u32.wrap ((x.l 8).getD 0 0) < 1 ↔ b = true) → (SB.lt lowA (.lit 1)).den (ν.at nAa x) = b := fun b h => lt_of (by simp only [lowA, hdA, SI.den, SL.den, r8, Int.toNat_zero]; exact h)
    rcases two_headsA hi hs with ⟨rfl, rfl, rfl⟩ | ⟨rfl, rfl, rfl⟩
    · have J : JP ν x [] := hJ
      have tot := J.ar.tot
      have F1 := F.n1
      have n1 := J.n1
      have full : 1 ≤ x.i 2 := by
        simp only [List.length_take, List.length_nil] at tot
        omega
      have lf := J.low_full full
      have fl := c2 false (by simpa using full)
      have fl2 := cl false (by simp only [Bool.false_eq_true, iff_false]; omega)
      by_cases h0 : 0 < (ν.l 0).length
      · have hin : (inA (.lit 0)).den (ν.at nAa x) = true := lt_of (by simp only [SI.den, SL.den, rf.lo 0 (by decide), iff_true]; omega)
        by_cases hd : (ν.l 0).getD 0 0 < 128
        · exact ⟨_, List.mem_of_getElem? (i := 1) rfl, pcDen_cons hin (pcDen_cons (lt_of (by simp only [dA, SI.den, SL.den, rf.lo 0 (by decide), Int.toNat_zero, iff_true]; exact hd)) (pcDen_cons fl (pcDen_one fl2)))⟩
        · exact ⟨_, List.mem_of_getElem? (i := 2) rfl, pcDen_cons hin (pcDen_cons (lt_of (by simp only [dA, SI.den, SL.den, rf.lo 0 (by decide), Int.toNat_zero, Bool.false_eq_true, iff_false]; exact hd)) (pcDen_cons fl (pcDen_one fl2)))⟩
      · exact ⟨_, List.mem_of_getElem? (i := 0) rfl, pcDen_one (lt_of (by simp only [SI.den, SL.den, rf.lo 0 (by decide), Bool.false_eq_true, iff_false]; omega))⟩
    · have J : JQ ν x := hJ
      have r0 : (ν.at nAa x).i nAa = x.i 0 := rf.i 0 (by decide)
      have r3 : (ν.at nAa x).i (nAa + 3) = x.i 3 := rf.i 3 (by decide)
      have r16 : (ν.at nAa x).i (nAa + 16) = 0 := (rf.i 16 (by decide)).trans J.o
      have r17 : (ν.at nAa x).i (nAa + 17) = x.i 17 := rf.i 17 (by decide)
      have r18 : (ν.at nAa x).i (nAa + 18) = x.i 18 := rf.i 18 (by decide)
      have r20 : (ν.at nAa x).l (nAa + 20) = x.l 20 := rf.l 20 (by decide)
      have rl : (ν.at nAa x).l 0 = ν.l 0 := rf.lo 0 (by decide)
      have r11 : (ν.at nAa x).i 11 = ν.i 11 := rf.io 11 (by decide)
      have cd : ∀ (b : Bool), ((ν.l 0).getD (x.i 0).toNat 0 < 128 ↔ b = true) → (SB.lt (dA (.var nAa)) (.lit 128)).den (ν.at nAa x) = b := fun b h => lt_of (by simp only [dA, SI.den, SL.den, rl, r0]; exact h)
      have c17 : ∀ (b : Bool), (x.i 17 < 1 ↔ b = true) → (SB.lt (.var (nAa + 17)) (.lit 1)).den (ν.at nAa x) = b := fun b h => lt_of (by simp only [SI.den, r17]; exact h)
      have cH : ∀ (b : Bool), (x.i 18 < x.i 17 + 1 ↔ b = true) → (SB.lt (.var (nAa + 18)) (.add (.var (nAa + 17)) (.lit 1))).den (ν.at nAa x) = b := fun b h => lt_of (by simp only [SI.den, r17, r18]; exact h)
      have cF : ∀ (b : Bool), (x.i 3 < x.i 2 + 1 ↔ b = true) → (SB.lt (.var (nAa + 3)) (.add (.var (nAa + 2)) (.lit 1))).den (ν.at nAa x) = b := fun b h => lt_of (by simp only [SI.den, r2, r3]; exact h)
      by_cases h0 : x.i 0 < (ν.l 0).length
      · have hin : (inA (.var nAa)).den (ν.at nAa x) = true := lt_of (by simp only [SI.den, SL.den, rl, r0, iff_true]; exact h0)
        by_cases hd : (ν.l 0).getD (x.i 0).toNat 0 < 128
        · have k1 := cd true (by simpa using hd)
          by_cases h2 : x.i 2 < 1
          · exact ⟨_, List.mem_of_getElem? (i := 1) rfl, pcDen_cons hin (pcDen_cons k1 (pcDen_cons (c2 true (by simpa using h2)) (pcDen_one (by simp only [lowA, hdA, SB.den, SI.den, SL.den, r8, Int.toNat_zero, J.p.low_none h2]; rfl))))⟩
          · have lf := J.p.low_full (by omega)
            have fl := c2 false (by simpa using h2)
            have fl2 := cl false (by simp only [Bool.false_eq_true, iff_false]; omega)
            by_cases hr : x.i 18 < x.i 17 + 1
            · exact ⟨_, List.mem_of_getElem? (i := 2) rfl, pcDen_cons hin (pcDen_cons k1 (pcDen_cons fl (pcDen_cons fl2 (pcDen_one (cH true (by simpa using hr))))))⟩
            · exact ⟨_, List.mem_of_getElem? (i := 3) rfl, pcDen_cons hin (pcDen_cons k1 (pcDen_cons fl (pcDen_cons fl2 (pcDen_one (cH false (by simpa using hr))))))⟩
        · have k1 := cd false (by simpa using hd)
          by_cases h17 : x.i 17 < 1
          · have k2 := c17 true (by simpa using h17)
            by_cases h2 : x.i 2 < 1
            · exact ⟨_, List.mem_of_getElem? (i := 4) rfl, pcDen_cons hin (pcDen_cons k1 (pcDen_cons k2 (pcDen_cons (c2 true (by simpa using h2)) (pcDen_one (by simp only [lowA, hdA, SB.den, SI.den, SL.den, r8, Int.toNat_zero, J.p.low_none h2]; rfl)))))⟩
            · have lf := J.p.low_full (by omega)
              have fl := c2 false (by simpa using h2)
              have fl2 := cl false (by simp only [Bool.false_eq_true, iff_false]; omega)
              by_cases hr : x.i 18 < x.i 17 + 1
              · exact ⟨_, List.mem_of_getElem? (i := 5) rfl, pcDen_cons hin (pcDen_cons k1 (pcDen_cons k2 (pcDen_cons fl (pcDen_cons fl2 (pcDen_one (cH true (by simpa using hr)))))))⟩
              · exact ⟨_, List.mem_of_getElem? (i := 6) rfl, pcDen_cons hin (pcDen_cons k1 (pcDen_cons k2 (pcDen_cons fl (pcDen_cons fl2 (pcDen_one (cH false (by simpa using hr)))))))⟩
          · have k2 := c17 false (by simpa using h17)
            have hdp := F.elem (x.i 0).toNat
            obtain ⟨a, ha, hlt⟩ : ∃ a : Nat, ((ν.l 0).getD (x.i 0).toNat 0).tmod (x.i 17) = (a : Int) ∧ (a : Int) < x.i 17 := by
              have h1 := Int.emod_nonneg ((ν.l 0).getD (x.i 0).toNat 0) (show x.i 17 ≠ 0 by omega)
              have h2 := Int.emod_lt_of_pos ((ν.l 0).getD (x.i 0).toNat 0) (show 0 < x.i 17 by omega)
              rw [Int.tmod_eq_emod_of_nonneg hdp.1]
              exact ⟨_, (Int.toNat_of_nonneg h1).symm, by rw [Int.toNat_of_nonneg h1]; exact h2⟩
            have n1 := J.n1
            have n2 := J.n2
            have cap := J.cap
            have tot := J.p.ar.tot
            have F2 := F.n2
            have p1 := J.p.n1
            have hat : atA.den (ν.at nAa x) = a := by simp only [atA, dA, SI.den, SL.den, rl, r0, r17, ha]
            have hit : itA.den (ν.at nAa x) = (x.l 20).getD a 0 := by
              rw [itA, SI.den, SI.den, hat]
              simp only [SI.den, SL.den, r16, r20, Int.zero_add, Int.toNat_natCast]
            have hb : 1 ≤ (x.l 20).getD a 0 ∧ (x.l 20).getD a 0 ≤ ν.i 11 := by
              refine J.p.ar.bnd _ (List.mem_append_right _ ?_)
              rw [take_at (a := a) (by omega) (by omega)]
              simp
            simp only [List.length_take] at tot
            have put : pcDen (ν.at nAa x) putA := by
              refine pcDen_cons k1 (pcDen_cons k2 (pcDen_cons (lt_of ?_) (pcDen_cons (lt_of ?_) (pcDen_cons (lt_of ?_) (pcDen_cons (lt_of ?_) (pcDen_cons (lt_of ?_) (pcDen_cons (lt_of ?_) (pcDen_cons (lt_of ?_) (pcDen_cons (lt_of ?_) (pcDen_cons (lt_of ?_) (pcDen_one (lt_of ?_))))))))))))
              all_goals (simp only [SI.den, SL.den, hat, hit, r16, r17, r18, r20, r2, r11, Bool.false_eq_true, iff_false, iff_true]; omega)
            have cM : ∀ (b : Bool), ((a : Int) + 1 < x.i 18 ↔ b = true) → (SB.lt (.add atA (.lit 1)) (.var (nAa + 18))).den (ν.at nAa x) = b := fun b h => lt_of (by simp only [SI.den, hat, r18]; exact h)
            by_cases hf : x.i 3 < x.i 2 + 1 <;> by_cases hm : (a : Int) + 1 < x.i 18
            · exact ⟨(_, _), List.mem_of_getElem? (i := 7) rfl, pcDen_cons hin (pcDen_append put (pcDen_cons (cF true (by simpa using hf)) (pcDen_one (cM true (by simpa using hm)))))⟩
            · exact ⟨(_, _), List.mem_of_getElem? (i := 8) rfl, pcDen_cons hin (pcDen_append put (pcDen_cons (cF true (by simpa using hf)) (pcDen_one (cM false (by simpa using hm)))))⟩
            · exact ⟨(_, _), List.mem_of_getElem? (i := 9) rfl, pcDen_cons hin (pcDen_append put (pcDen_cons (cF false (by simpa using hf)) (pcDen_one (cM true (by simpa using hm)))))⟩
            · exact ⟨(_, _), List.mem_of_getElem? (i := 10) rfl, pcDen_cons hin (pcDen_append put (pcDen_cons (cF false (by simpa using hf)) (pcDen_one (cM false (by simpa using hm)))))⟩
      · exact ⟨_, List.mem_of_getElem? (i := 0) rfl, pcDen_one (lt_of (by simp only [SI.den, SL.den, rl, r0]; simpa using h0))⟩
  · intro i h ss hi hs c hc t ht ν x ν2 hI h hJ hpc hq rf h2
    have hp := bads_of h
    have F := fA2 hI hp
    refine finA F hp ?_
    have rfa : RF nAa ν x (ν.at nAa x) := RF.self rfl
    have r2 : (ν.at nAa x).i (nAa + 2) = x.i 2 := rfa.i 2 (by decide)
    have full : (SB.lt (.var (nAa + 2)) (.lit 1)).den (ν.at nAa x) = false → 1 ≤ x.i 2 := fun h => by
      have := lt_den h
      simp only [SI.den, r2, Bool.false_eq_true, iff_false] at this
      omega
    rcases two_headsA hi hs with ⟨rfl, rfl, rfl⟩ | ⟨rfl, rfl, rfl⟩
    · have J : JP ν x [] := hJ
      have hin : (inA (.lit 0)).den (ν.at nAa x) = true → 0 < (ν.l 0).length := fun hh => by
        have := (lt_den hh).2 rfl
        simp only [SI.den, SL.den, rfa.lo 0 (by decide)] at this
        omega
      simp only [sumsA, List.getElem?_cons_zero, Option.getD_some, List.mem_cons, List.not_mem_nil, or_false] at hc
      rcases hc with rfl | rfl | rfl
      · exact exitA0 ht
      · exact cA0_1 hI F rf (hin (pcAt hq 0 rfl)) J (full (pcAt hq 2 rfl)) t ht h2
      · exact cA0_2 hI F rf (hin (pcAt hq 0 rfl)) J (full (pcAt hq 2 rfl)) t ht h2
    · have J : JQ ν x := hJ
      have r0 : (ν.at nAa x).i nAa = x.i 0 := rfa.i 0 (by decide)
      have r3 : (ν.at nAa x).i (nAa + 3) = x.i 3 := rfa.i 3 (by decide)
      have r17 : (ν.at nAa x).i (nAa + 17) = x.i 17 := rfa.i 17 (by decide)
      have r18 : (ν.at nAa x).i (nAa + 18) = x.i 18 := rfa.i 18 (by decide)
      have rl : (ν.at nAa x).l 0 = ν.l 0 := rfa.lo 0 (by decide)
      have hin : (inA (.var nAa)).den (ν.at nAa x) = true → x.i 0 < (ν.l 0).length := fun hh => by
        have := (lt_den hh).2 rfl
        simpa only [SI.den, SL.den, rl, r0] using this
      have c17 : (SB.lt (.var (nAa + 17)) (.lit 1)).den (ν.at nAa x) = false → 1 ≤ x.i 17 := fun h => by
        have := lt_den h
        simp only [SI.den, r17, Bool.false_eq_true, iff_false] at this
        omega
      have cH : (SB.lt (.var (nAa + 18)) (.add (.var (nAa + 17)) (.lit 1))).den (ν.at nAa x) = false → x.i 17 + 1 ≤ x.i 18 := fun h => by
        have := lt_den h
        simp only [SI.den, r17, r18, Bool.false_eq_true, iff_false] at this
        omega
      have cF : (SB.lt (.var (nAa + 3)) (.add (.var (nAa + 2)) (.lit 1))).den (ν.at nAa x) = false → x.i 2 + 1 ≤ x.i 3 := fun h => by
        have := lt_den h
        simp only [SI.den, r2, r3, Bool.false_eq_true, iff_false] at this
        omega
      have cM : (SB.lt (.add atA (.lit 1)) (.var (nAa + 18))).den (ν.at nAa x) = false → x.i 18 ≤ ((ν.l 0).getD (x.i 0).toNat 0).tmod (x.i 17) + 1 := fun h => by
        have := lt_den h
        simp only [atA, dA, SI.den, SL.den, rl, r0, r17, r18, Bool.false_eq_true, iff_false] at this
        omega
      simp only [sumsA, List.getElem?_cons_succ, List.getElem?_cons_zero, Option.getD_some, List.mem_cons, List.not_mem_nil, or_false] at hc
      rcases hc with rfl | rfl | rfl | rfl | rfl | rfl | rfl | rfl | rfl | rfl | rfl
      · exact exitA1 ht
      · exact cA1_1 hI F rf (hin (pcAt hq 0 rfl)) J t ht h2
      · exact cA1_2 hI F rf (hin (pcAt hq 0 rfl)) J (full (pcAt hq 2 rfl)) t ht h2
      · exact cA1_3 hI F rf (hin (pcAt hq 0 rfl)) J (full (pcAt hq 2 rfl)) (cH (pcAt hq 4 rfl)) t ht h2
      · exact cA1_4 hI F rf (hin (pcAt hq 0 rfl)) J t ht h2
      · exact cA1_5 hI F rf (hin (pcAt hq 0 rfl)) J (full (pcAt hq 3 rfl)) t ht h2
      · exact cA1_6 hI F rf (hin (pcAt hq 0 rfl)) J (full (pcAt hq 3 rfl)) (cH (pcAt hq 5 rfl)) t ht h2
      · exact cA1_7 hI F rf (hin (pcAt hq 0 rfl)) J (c17 (pcAt hq 2 rfl)) t ht h2
      · exact cA1_8 hI F rf (hin (pcAt hq 0 rfl)) J (c17 (pcAt hq 2 rfl)) (cM (pcAt hq 14 rfl)) t ht h2
      · exact cA1_9 hI F rf (hin (pcAt hq 0 rfl)) J (c17 (pcAt hq 2 rfl)) (cF (pcAt hq 13 rfl)) t ht h2
      · exact cA1_10 hI F rf (hin (pcAt hq 0 rfl)) J (c17 (pcAt hq 2 rfl)) (cF (pcAt hq 13 rfl)) (cM (pcAt hq 14 rfl)) t ht h2
end Go.Proofs.Ytoogepoalbhlhaa
end

section
namespace Go.Proofs.Ytoogepoalbhlhaa
open Go Go.Sy Go.RowKit

def ouAa : List CLeaf := [
  ⟨false, (.bool (.lit false)), [((.lit false), true), ((.lt (.var 4149515568930039727994365942124394166992711742399001731637553803539120148760240926041420639692769980282987225359779169196955117137839653179229686494616041389227262193000031157485572) (.len (.gl 0 (.app 23 (.var 0) (.var 0) (.var 11) (.lit 0) (.lit 0) (.lit 0) .nil) (.lit 0) (.lit 0)))), false), ((.lt (.var 8) (.lit 0)), false), ((.lt (.var 9) (.len (.var 0))), false), ((.lt (.var 11) (.lit 1)), false), ((.lt (.lit 20) (.var 11)), false), ((.lt (.lit 100) (.len (.var 0))), false), ((.gb 0 (.app 45 (.var 0) (.var 0) (.lit 0) (.lit 255) (.lit 0) (.lit 0) (.var 0)) (.lit 0) (.lit 0)), true)], []⟩]
def restAa : List (Bool × SV × PC) := ouAa.map fun c => (c.bad, c.v, c.pc)
theorem runAa : restOf (runX Try.prog (oAaL Try.prog) fAa (argsAa viewAa) pcAa hpAa) = some restAa := by kernel_rfl
theorem runA1 : restOf (runX Try.prog (oAa Try.prog) fAa (argsAa viewAa) (pcA1 pvAa) hpAa) = some [] := by kernel_rfl
theorem runA2 : restOf (runX Try.prog (oAa Try.prog) fAa (argsAa viewAa) (pcA2 pvAa) hpAa) = some [] := by kernel_rfl
theorem runA3 : restOf (runX Try.prog (oAa Try.prog) fAa (argsAa viewAa) (pcA3 pvAa) hpAa) = some [] := by kernel_rfl
theorem runN1 : restOf (runX Try.prog (oAa Try.prog) fAa (argsAa .nilSl) (pcA1 []) []) = some [] := by kernel_rfl
theorem runN2 : restOf (runX Try.prog (oAa Try.prog) fAa (argsAa .nilSl) (pcA2 []) []) = some [] := by kernel_rfl
theorem runN4 : restOf (runX Try.prog (oFnL Try.prog) fAa (argsAa .nilSl) pcA4 []) = some [] := by kernel_rfl
theorem runE1 : restOf (runX Try.prog (oAa Try.prog) fAa (argsAa (.emp 0)) (pcA1 []) []) = some [] := by kernel_rfl
theorem runE2 : restOf (runX Try.prog (oAa Try.prog) fAa (argsAa (.emp 0)) (pcA2 []) []) = some [] := by kernel_rfl
theorem runE4 : restOf (runX Try.prog (oFeL Try.prog) fAa (argsAa (.emp 0)) pcA4 []) = some [] := by kernel_rfl
theorem rest_noA (x : Bool × SV × PC) (hx : x ∈ restAa) {ν : Env Gh} (hp : pcDen ν x.2.2) : False := by
  simp only [restAa, ouAa, List.map_cons, List.map_nil, List.mem_cons, List.not_mem_nil, or_false] at hx
  subst hx
  have := pcAt hp 0 rfl
  simp [SB.den] at this
theorem aa_calls (W : World) (ν : Env Gh) (hI : ν.I = inM) (g : Nat) (hg : g < W.heap.size) (h8 : 0 ≤ ν.i 8) (h9 : ((ν.l 0).length : Int) ≤ ν.i 9) (hr : ∀ x ∈ ν.l 0, 0 ≤ x ∧ x ≤ 255)
    (hcell : ∀ (j : Nat) (x : Int), (ν.l 0)[j]? = some x → W.cell? ⟨g, (ν.i 8).toNat + j, none⟩ = some (.int .u8 x)) : Calls Try.prog fAa (denL ν (fun _ => g) (argsAa viewAa)).toArray W fun e w' => e = .returned (.bool true) ∧ Below W.heap.size W w' := by
  have hw : HW (baseOf W) ν (fun _ => g) hpAa W := (HW.empty _ _ _).addView (by simp) (by rw [baseOf_own]; omega) (by simpa only [SI.den] using h8) (by simpa [SI.den, SL.den, baseOf] using hcell)
  have hv : pcDen ν pvAa := pcDen_cons (lt_of (by simp only [SI.den]; simp; omega)) (pcDen_one (lt_of (by simp only [SI.den, SL.den]; simp; omega)))
  by_cases h1 : ν.i 11 < 1
  · exact law_auto pr oAa_ok runA1 W ν (fun _ => g) hI (pcDen_cons (lt_of (by simp only [SI.den]; simpa using h1)) hv) hw
  · have k1 : (SB.lt (.var 11) (.lit 1)).den ν = false := lt_of (by simp only [SI.den]; simp; omega)
    by_cases h2 : 20 < ν.i 11
    · exact law_auto pr oAa_ok runA2 W ν (fun _ => g) hI (pcDen_cons k1 (pcDen_cons (lt_of (by simp only [SI.den]; simpa using h2)) hv)) hw
    · have k2 : (SB.lt (.lit 20) (.var 11)).den ν = false := lt_of (by simp only [SI.den]; simp; omega)
      by_cases h3 : 100 < (ν.l 0).length
      · exact law_auto pr oAa_ok runA3 W ν (fun _ => g) hI (pcDen_cons k1 (pcDen_cons k2 (pcDen_cons (lt_of (by simp only [SI.den, SL.den]; simp; omega)) hv))) hw
      · refine law_rest pr oAaL_ok runAa W ν (fun _ => g) hI ?_ hw fun x hx ν' ρ' hag hp => (rest_noA x hx hp).elim
        exact pcDen_append hv (pcDen_cons k1 (pcDen_cons k2 (pcDen_cons (lt_of (by simp only [SI.den, SL.den]; simp; omega)) (pcDen_one ((range_den hI (.var 0) 0 255).2 hr)))))
theorem aa_nil (W : World) (ν : Env Gh) (hI : ν.I = inM) : Calls Try.prog fAa (denL ν (fun _ => 0) (argsAa .nilSl)).toArray W fun e w' => e = .returned (.bool true) ∧ Below W.heap.size W w' := by
  by_cases h1 : ν.i 11 < 1
  · exact law_auto pr oAa_ok runN1 W ν (fun _ => 0) hI (pcDen_one (lt_of (by simp only [SI.den]; simpa using h1))) (HW.empty _ _ _)
  · have k1 : (SB.lt (.var 11) (.lit 1)).den ν = false := lt_of (by simp only [SI.den]; simp; omega)
    by_cases h2 : 20 < ν.i 11
    · exact law_auto pr oAa_ok runN2 W ν (fun _ => 0) hI (pcDen_cons k1 (pcDen_one (lt_of (by simp only [SI.den]; simpa using h2)))) (HW.empty _ _ _)
    · exact law_auto pr oFnL_ok runN4 W ν (fun _ => 0) hI (pcDen_cons k1 (pcDen_one (lt_of (by simp only [SI.den]; simp; omega)))) (HW.empty _ _ _)
theorem aa_emp (W : World) (ν : Env Gh) (hI : ν.I = inM) : Calls Try.prog fAa (denL ν (fun _ => 0) (argsAa (.emp 0))).toArray W fun e w' => e = .returned (.bool true) ∧ Below W.heap.size W w' := by
  by_cases h1 : ν.i 11 < 1
  · exact law_auto pr oAa_ok runE1 W ν (fun _ => 0) hI (pcDen_one (lt_of (by simp only [SI.den]; simpa using h1))) (HW.empty _ _ _)
  · have k1 : (SB.lt (.var 11) (.lit 1)).den ν = false := lt_of (by simp only [SI.den]; simp; omega)
    by_cases h2 : 20 < ν.i 11
    · exact law_auto pr oAa_ok runE2 W ν (fun _ => 0) hI (pcDen_cons k1 (pcDen_one (lt_of (by simp only [SI.den]; simpa using h2)))) (HW.empty _ _ _)
    · exact law_auto pr oFeL_ok runE4 W ν (fun _ => 0) hI (pcDen_cons k1 (pcDen_one (lt_of (by simp only [SI.den]; simp; omega)))) (HW.empty _ _ _)
end Go.Proofs.Ytoogepoalbhlhaa
end
