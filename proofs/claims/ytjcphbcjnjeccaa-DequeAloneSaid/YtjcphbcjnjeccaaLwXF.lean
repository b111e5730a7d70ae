/- DequeAlone's loop as a contract; the law's run. -/
import Derived.Test.YtjcphbcjnjeccaaLwXE
import Derived.Test.YtjcphbcjnjeccaaLwDnA
import Derived.Test.YtjcphbcjnjeccaaLwDnB
import Derived.Test.YtjcphbcjnjeccaaLwDnC
import Derived.Test.YtjcphbcjnjeccaaLwDnD
import Derived.Test.YtjcphbcjnjeccaaLwDnE
import Derived.Test.YtjcphbcjnjeccaaLwDnF
import Derived.Test.YtjcphbcjnjeccaaLwXC
import Derived.Test.YtjcphbcjnjeccaaLwXD
set_option linter.unusedVariables false
set_option linter.unusedSimpArgs false

section
namespace Go.Proofs.Ytjcphbcjnjeccaa
open Go Go.Sy Go.RowKit

def bDnL : PC := pcEDn.map fun x => (x.1, !x.2)
theorem oDn_ok : OOK Try.prog (oDn Try.prog) inM := pruned_ok pr (same_ok (right7_ok (dq_ok (true_ok awake7_calls (opLoadS_ok (opAppendW_ok (opSliceT_ok noOrac_ok)))))))
theorem bDn_pc {ν : Env Gh} (h : ∀ x ∈ bDnL, x.1.den ν ≠ x.2) : pcDen ν pcEDn := by
  intro c b hm
  have := h (c, !b) (List.mem_map.2 ⟨(c, b), hm, rfl⟩)
  revert this
  simp only
  cases c.den ν <;> cases b <;> simp
def sumsDn : List (List (PC × List SumT)) := [[(qAt cases0 0, s0_0), (qAt cases0 1, s0_1), (qAt cases0 2, s0_2), (qAt cases0 3, s0_3), (qAt cases0 4, s0_4)], [(qAt cases1 0, s1_0), (qAt cases1 1, s1_1), (qAt cases1 2, s1_2), (qAt cases1 3, s1_3), (qAt cases1 4, s1_4), (qAt cases1 5, s1_5), (qAt cases1 6, s1_6), (qAt cases1 7, s1_7), (qAt cases1 8, s1_8), (qAt cases1 9, s1_9), (qAt cases1 10, s1_10), (qAt cases1 11, s1_11), (qAt cases1 12, s1_12), (qAt cases1 13, s1_13)]]
def ent0 : Tgt := hdAt entDn 0
theorem oneDn : (loopsAt Try.prog fDn sDn).length = 1 := by kernel_rfl
theorem stDn : mAll nDn 0 0 Try.prog ent0.fr ent0.hp (hdAt headsD 0).fr (hdAt headsD 0).hp = some startDn := by kernel_rfl
theorem h0pc : (hdAt headsD 0).pc = [(.eq (.bits 0 .i64 szDn (.sub szDn (.lit 1))) (.lit 0), true), (.lt (dDn (.lit 0)) (.lit 0), false), (.lt (.lit 255) (dDn (.lit 0)), false)] ++ (pRow szDn (.var 12) (.var 12) (.lit 0) ++ pcEDn) := by kernel_rfl
attribute [local irreducible] nmAt
theorem h0ok {ν : Env Gh} {x : Vals Gh} (F : FD ν) (hp : pcDen ν pcEDn) : pcDen (ν.at nDn x) (hdAt headsD 0).pc := by
  rw [h0pc]
  have rf : RF nDn ν x (ν.at nDn x) := RF.self rfl
  refine pcDen_append ?_ (pcDen_append ?_ (pcDen_agree (at_agree (ρ := fun _ => 0) (ρ' := fun _ => 0) (fun _ _ => rfl)) avE hp))
  · have := F.elem 0
    simp only [szDn, dDn, pcDen_cons_iff, pcDen_nil_iff, and_true, SB.den, beq_iff_eq]
    simp only [SI.den, SL.den, rf.io 11 (by decide), rf.lo 0 (by decide), Int.toNat_zero]
    exact ⟨bits_pow _ F.pow, decide_eq_false (by omega), decide_eq_false (by omega)⟩
  · have d := base_dq F
    refine row_pc (l := base0 ν) (k := 0) ?_ ?_ ?_
    · simpa only [szDn, SI.den, rf.io 11 (by decide), rf.io 12 (by decide)] using d
    · simp only [SI.den, rf.io 12 (by decide)]; rfl
    · rfl
theorem kinds {d : Int} (h0 : 0 ≤ d) : d.tmod 4 = 0 ∨ d.tmod 4 = 1 ∨ d.tmod 4 = 2 ∨ d.tmod 4 = 3 := by
  rw [Int.tmod_eq_emod_of_nonneg h0]; omega
def oDnL (P : Program) : Orac := (oDn P).withLoop fDn sDn nDn ent0.fr ent0.hp (mkM nDn tgD bDnL)
def jD (i : Nat) (ν : Env Gh) (x : Vals Gh) : Prop := match i with
  | 0 => True
  | _ => ∃ t n, J1 ν x t n
def mD (i : Nat) (ν : Env Gh) (x : Vals Gh) : Nat := match i with
  | 0 => (ν.l 0).length + 1
  | _ => mD1 ν x
theorem two_heads {i : Nat} {h : Tgt} {ss : List (PC × List SumT)} (hi : headsD[i]? = some h) (hs : sumsDn[i]? = some ss) : (i = 0 ∧ h = hdAt headsD 0 ∧ ss = (sumsDn[0]?).getD []) ∨ (i = 1 ∧ h = hdAt headsD 1 ∧ ss = (sumsDn[1]?).getD []) := by
  have hlt : i < 2 := (List.getElem?_eq_some_iff.1 hs).1
  match i, hlt with
  | 0, _ => exact .inl ⟨rfl, by unfold hdAt; rw [hi]; rfl, by rw [hs]; rfl⟩
  | 1, _ => exact .inr ⟨rfl, by unfold hdAt; rw [hi]; rfl, by rw [hs]; rfl⟩
theorem fin {ν ν2 : Env Gh} {x : Vals Gh} {t : SumT} {i : Nat} (F : FD ν) (hp : pcDen ν pcEDn) (h : GD ν ν2 (mD i ν x) t) : match t.ex with
      | .normal => ∀ g, headsD[t.k]? = some g → jD t.k ν (t.mt.vals (ghL []) ν2) ∧ pcDen (ν.at nDn (t.mt.vals (ghL []) ν2)) g.pc ∧ mD t.k ν (t.mt.vals (ghL []) ν2) < mD i ν x ∧ t.mt.Owed ν2 (ν.at nDn (t.mt.vals (ghL []) ν2))
      | .bad => False
      | _ => (∀ g, tgD[t.k]? = some g → pcDen (ν.at nDn (t.mt.vals (ghL []) ν2)) g.pc) ∧ t.mt.Owed ν2 (ν.at nDn (t.mt.vals (ghL []) ν2)) := by
  unfold GD at h
  revert h
  cases t.ex with
  | normal =>
    rintro ⟨hk, ⟨a, n, J⟩, hm, ho⟩ g hg
    rw [hk] at hg ⊢
    have e : g = hdAt headsD 1 := by unfold hdAt; rw [hg]; rfl
    subst e
    exact ⟨⟨a, n, J⟩, h1ok F hp J, hm, ho⟩
  | bad => exact fun h => h
  | ret => exact fun h => h.elim
  | exit j =>
    rintro ⟨hk, ho⟩
    refine ⟨fun g hg => ?_, ho⟩
    rw [hk] at hg
    cases hg
    exact pcDen_nil _
theorem exit0 {ν ν2 : Env Gh} {m0 : Nat} {t : SumT} (ht : t ∈ s0_0) : GD ν ν2 m0 t := by
  simp only [s0_0, List.mem_cons, List.not_mem_nil, or_false] at ht
  subst ht
  exact ⟨rfl, by constructor <;> simp⟩
theorem exit1 {ν ν2 : Env Gh} {m0 : Nat} {t : SumT} (ht : t ∈ s1_0) : GD ν ν2 m0 t := by
  simp only [s1_0, List.mem_cons, List.not_mem_nil, or_false] at ht
  subst ht
  exact ⟨rfl, by constructor <;> simp⟩
theorem inI_den {ν : Env Gh} (i : SI) (b : Bool) (h : (inI i).den ν = b) : (i.den ν < (ν.l 0).length) ↔ b = true := by
  simp only [inI, SB.den] at h
  rw [← h]
  exact (decide_eq_true_iff (p := i.den ν < (SI.len (.var 0)).den ν)).symm
theorem lt_den {G : Type} {ν : Env G} {a c : SI} {b : Bool} (h : (SB.lt a c).den ν = b) : a.den ν < c.den ν ↔ b = true := by
  simp only [SB.den] at h
  rw [← h]
  exact decide_eq_true_iff.symm
theorem lt_of {G : Type} {ν : Env G} {a c : SI} {b : Bool} (h : a.den ν < c.den ν ↔ b = true) : (SB.lt a c).den ν = b := by
  simp only [SB.den]
  cases b
  · exact decide_eq_false (by simpa using h)
  · exact decide_eq_true (by simpa using h)
theorem oDnL_ok : OOK Try.prog (oDnL Try.prog) inM := by
  refine loopC_ok (n := 6000) (it := 0) pr oDn_ok (rfl : nDn = nmAt sDn) (by decide +kernel) oneDn (heads := headsD) (sums := sumsDn) (start := startDn) (h0 := hdAt headsD 0) (ghL []) rfl ?_ rfl stDn jD mD ?_ ?_ ?_ oDn_ok
  · intro i h ss hi hs c hc
    rcases two_heads hi hs with ⟨rfl, rfl, rfl⟩ | ⟨rfl, rfl, rfl⟩
    · simp only [sumsDn, List.getElem?_cons_zero, Option.getD_some, List.mem_cons, List.not_mem_nil, or_false] at hc
      rcases hc with rfl | rfl | rfl | rfl | rfl
      · exact rD0_0
      · exact rD0_1
      · exact rD0_2
      · exact rD0_3
      · exact rD0_4
    · simp only [sumsDn, List.getElem?_cons_succ, List.getElem?_cons_zero, Option.getD_some, List.mem_cons, List.not_mem_nil, or_false] at hc
      rcases hc with rfl | rfl | rfl | rfl | rfl | rfl | rfl | rfl | rfl | rfl | rfl | rfl | rfl | rfl
      · exact rD1_0
      · exact rD1_1
      · exact rD1_2
      · exact rD1_3
      · exact rD1_4
      · exact rD1_5
      · exact rD1_6
      · exact rD1_7
      · exact rD1_8
      · exact rD1_9
      · exact rD1_10
      · exact rD1_11
      · exact rD1_12
      · exact rD1_13
  · intro ν hI h
    have hp := bDn_pc h
    exact ⟨trivial, h0ok (fD hI hp) hp, by constructor <;> simp [startDn]⟩
  · intro i h ss hi hs ν x hI h hJ hpc
    have hp := bDn_pc h
    have F := fD hI hp
    have rf : RF nDn ν x (ν.at nDn x) := RF.self rfl
    rcases two_heads hi hs with ⟨rfl, rfl, rfl⟩ | ⟨rfl, rfl, rfl⟩
    · have hk : ∀ k : Int, ((ν.l 0).getD 0 0).tmod 4 = k → (kindI (.lit 0) k).den (ν.at nDn x) = true := by
        intro k e
        simp only [kindI, dDn, SB.den, beq_iff_eq]
        simp only [SI.den, SL.den, rf.lo 0 (by decide), Int.toNat_zero]
        exact e
      by_cases h0 : 0 < (ν.l 0).length
      · have hin : (inI (.lit 0)).den (ν.at nDn x) = true := lt_of (by simp only [SI.den, SL.den, rf.lo 0 (by decide), iff_true]; omega)
        rcases kinds (F.elem 0).1 with e | e | e | e
        · exact ⟨_, List.mem_of_getElem? (i := 3) rfl, pcDen_cons hin (pcDen_one (hk _ e))⟩
        · exact ⟨_, List.mem_of_getElem? (i := 1) rfl, pcDen_cons hin (pcDen_one (hk _ e))⟩
        · exact ⟨_, List.mem_of_getElem? (i := 2) rfl, pcDen_cons hin (pcDen_one (hk _ e))⟩
        · exact ⟨_, List.mem_of_getElem? (i := 4) rfl, pcDen_cons hin (pcDen_one (hk _ e))⟩
      · exact ⟨_, List.mem_of_getElem? (i := 0) rfl, pcDen_one (lt_of (by simp only [SI.den, SL.den, rf.lo 0 (by decide), Bool.false_eq_true, iff_false]; omega))⟩
    · obtain ⟨t, n, J⟩ := hJ
      have r0 : (ν.at nDn x).i nDn = x.i 0 := rf.i 0 (by decide)
      have r2 : (ν.at nDn x).i (nDn + 2) = x.i 2 := rf.i 2 (by decide)
      have r3 : (ν.at nDn x).i (nDn + 3) = x.i 3 := rf.i 3 (by decide)
      have hn := J.n2
      have hc := J.cap
      have hr := J.dq.room
      have hk : ∀ k : Int, ((ν.l 0).getD (x.i 0).toNat 0).tmod 4 = k → (kindI (.var nDn) k).den (ν.at nDn x) = true := by
        intro k e
        simp only [kindI, dDn, SB.den, beq_iff_eq]
        simp only [SI.den, SL.den, rf.lo 0 (by decide), r0]
        exact e
      have ltN : ∀ (k : Int) (b : Bool), (x.i 2 < k ↔ b = true) → (SB.lt (.var (nDn + 2)) (.lit k)).den (ν.at nDn x) = b := fun k b h => lt_of (by simp only [SI.den, r2]; exact h)
      have ltS : ∀ (b : Bool), (x.i 2 < ν.i 11 ↔ b = true) → (SB.lt (.var (nDn + 2)) szDn).den (ν.at nDn x) = b := fun b h => lt_of (by simp only [szDn, SI.den, r2, rf.io 11 (by decide)]; exact h)
      have ltC : ∀ (b : Bool), (x.i 3 < x.i 2 + 1 ↔ b = true) → (SB.lt (.var (nDn + 3)) (.add (.var (nDn + 2)) (.lit 1))).den (ν.at nDn x) = b := fun b h => lt_of (by simp only [SI.den, r2, r3]; exact h)
      have ltC2 : ∀ (b : Bool), (x.i 3 < 2 ↔ b = true) → (SB.lt (.var (nDn + 3)) (.lit 2)).den (ν.at nDn x) = b := fun b h => lt_of (by simp only [SI.den, r3]; exact h)
      by_cases h0 : x.i 0 < (ν.l 0).length
      · have hin : (inI (.var nDn)).den (ν.at nDn x) = true := lt_of (by simp only [SI.den, SL.den, rf.lo 0 (by decide), r0, iff_true]; exact h0)
        rcases kinds (F.elem (x.i 0).toNat).1 with e | e | e | e
        · by_cases a1 : x.i 2 < ν.i 11
          · by_cases a2 : x.i 3 < x.i 2 + 1
            · exact ⟨_, List.mem_of_getElem? (i := 10) rfl, pcDen_cons hin (pcDen_cons (hk _ e) (pcDen_cons (ltS true (by simpa using a1)) (pcDen_one (ltC true (by simpa using a2)))))⟩
            · exact ⟨_, List.mem_of_getElem? (i := 9) rfl, pcDen_cons hin (pcDen_cons (hk _ e) (pcDen_cons (ltS true (by simpa using a1)) (pcDen_one (ltC false (by simpa using a2)))))⟩
          · exact ⟨_, List.mem_of_getElem? (i := 8) rfl, pcDen_cons hin (pcDen_cons (hk _ e) (pcDen_one (ltS false (by simpa using a1))))⟩
        · by_cases a1 : x.i 2 < 1
          · exact ⟨_, List.mem_of_getElem? (i := 1) rfl, pcDen_cons hin (pcDen_cons (hk _ e) (pcDen_one (ltN 1 true (by simpa using a1))))⟩
          · by_cases a2 : x.i 2 < 2
            · exact ⟨_, List.mem_of_getElem? (i := 2) rfl, pcDen_cons hin (pcDen_cons (hk _ e) (pcDen_cons (ltN 1 false (by simpa using a1)) (pcDen_one (ltN 2 true (by simpa using a2)))))⟩
            · exact ⟨_, List.mem_of_getElem? (i := 3) rfl, pcDen_cons hin (pcDen_cons (hk _ e) (pcDen_one (ltN 2 false (by simpa using a2))))⟩
        · by_cases a1 : x.i 2 < 1
          · exact ⟨_, List.mem_of_getElem? (i := 4) rfl, pcDen_cons hin (pcDen_cons (hk _ e) (pcDen_one (ltN 1 true (by simpa using a1))))⟩
          · by_cases a2 : x.i 2 < 2
            · by_cases a3 : x.i 3 < 2
              · exact ⟨_, List.mem_of_getElem? (i := 5) rfl, pcDen_cons hin (pcDen_cons (hk _ e) (pcDen_cons (ltN 1 false (by simpa using a1)) (pcDen_cons (ltN 2 true (by simpa using a2)) (pcDen_one (ltC2 true (by simpa using a3))))))⟩
              · exact ⟨_, List.mem_of_getElem? (i := 6) rfl, pcDen_cons hin (pcDen_cons (hk _ e) (pcDen_cons (ltN 1 false (by simpa using a1)) (pcDen_cons (ltN 2 true (by simpa using a2)) (pcDen_one (ltC2 false (by simpa using a3))))))⟩
            · exact ⟨_, List.mem_of_getElem? (i := 7) rfl, pcDen_cons hin (pcDen_cons (hk _ e) (pcDen_one (ltN 2 false (by simpa using a2))))⟩
        · by_cases a1 : x.i 2 < ν.i 11
          · by_cases a2 : x.i 3 < x.i 2 + 1
            · exact ⟨_, List.mem_of_getElem? (i := 13) rfl, pcDen_cons hin (pcDen_cons (hk _ e) (pcDen_cons (ltS true (by simpa using a1)) (pcDen_one (ltC true (by simpa using a2)))))⟩
            · exact ⟨_, List.mem_of_getElem? (i := 12) rfl, pcDen_cons hin (pcDen_cons (hk _ e) (pcDen_cons (ltS true (by simpa using a1)) (pcDen_one (ltC false (by simpa using a2)))))⟩
          · exact ⟨_, List.mem_of_getElem? (i := 11) rfl, pcDen_cons hin (pcDen_cons (hk _ e) (pcDen_one (ltS false (by simpa using a1))))⟩
      · exact ⟨_, List.mem_of_getElem? (i := 0) rfl, pcDen_one (lt_of (by simp only [SI.den, SL.den, rf.lo 0 (by decide), r0]; simpa using h0))⟩
  · intro i h ss hi hs c hc t ht ν x ν2 hI h hJ hpc hq rf h2
    have hp := bDn_pc h
    have F := fD hI hp
    refine fin F hp ?_
    have rfa : RF nDn ν x (ν.at nDn x) := RF.self rfl
    rcases two_heads hi hs with ⟨rfl, rfl, rfl⟩ | ⟨rfl, rfl, rfl⟩
    · have hin : (inI (.lit 0)).den (ν.at nDn x) = true → 0 < (ν.l 0).length := fun hh => by
        have := (lt_den hh).2 rfl
        simp only [SI.den, SL.den, rfa.lo 0 (by decide)] at this
        omega
      simp only [sumsDn, List.getElem?_cons_zero, Option.getD_some, List.mem_cons, List.not_mem_nil, or_false] at hc
      rcases hc with rfl | rfl | rfl | rfl | rfl
      · exact exit0 ht
      · exact c0_1 F rf (hin (pcAt hq 0 rfl)) t ht h2
      · exact c0_2 F rf (hin (pcAt hq 0 rfl)) t ht h2
      · exact c0_3 hI F rf (hin (pcAt hq 0 rfl)) t ht h2
      · exact c0_4 hI F rf (hin (pcAt hq 0 rfl)) t ht h2
    · obtain ⟨t0, n, J⟩ := hJ
      have r0 : (ν.at nDn x).i nDn = x.i 0 := rfa.i 0 (by decide)
      have r2 : (ν.at nDn x).i (nDn + 2) = x.i 2 := rfa.i 2 (by decide)
      have r3 : (ν.at nDn x).i (nDn + 3) = x.i 3 := rfa.i 3 (by decide)
      have hn := J.n2
      have hcap := J.cap
      have hin : (inI (.var nDn)).den (ν.at nDn x) = true → x.i 0 < (ν.l 0).length := fun hh => by
        have := (lt_den hh).2 rfl
        simpa only [SI.den, SL.den, rfa.lo 0 (by decide), r0] using this
      have ltN : ∀ (k : Int) (b : Bool), (SB.lt (.var (nDn + 2)) (.lit k)).den (ν.at nDn x) = b → (x.i 2 < k ↔ b = true) := fun k b h => by
        have := lt_den h
        simpa only [SI.den, r2] using this
      have ltS : ∀ (b : Bool), (SB.lt (.var (nDn + 2)) szDn).den (ν.at nDn x) = b → (x.i 2 < ν.i 11 ↔ b = true) := fun b h => by
        have := lt_den h
        simpa only [szDn, SI.den, r2, rfa.io 11 (by decide)] using this
      have ltC : ∀ (b : Bool), (SB.lt (.var (nDn + 3)) (.add (.var (nDn + 2)) (.lit 1))).den (ν.at nDn x) = b → (x.i 3 < x.i 2 + 1 ↔ b = true) := fun b h => by
        have := lt_den h
        simpa only [SI.den, r2, r3] using this
      have ltC2 : ∀ (b : Bool), (SB.lt (.var (nDn + 3)) (.lit 2)).den (ν.at nDn x) = b → (x.i 3 < 2 ↔ b = true) := fun b h => by
        have := lt_den h
        simpa only [SI.den, r3] using this
      simp only [sumsDn, List.getElem?_cons_succ, List.getElem?_cons_zero, Option.getD_some, List.mem_cons, List.not_mem_nil, or_false] at hc
      rcases hc with rfl | rfl | rfl | rfl | rfl | rfl | rfl | rfl | rfl | rfl | rfl | rfl | rfl | rfl
      · exact exit1 ht
      · exact c1_1 hI F rf (hin (pcAt hq 0 rfl)) J t ht h2
      · have a1 := ltN 1 false (pcAt hq 2 rfl)
        have a2 := ltN 2 true (pcAt hq 3 rfl)
        simp only [Bool.false_eq_true, iff_false, iff_true] at a1 a2
        obtain rfl : n = 1 := by omega
        exact c1_2 hI F rf (hin (pcAt hq 0 rfl)) J t ht h2
      · have a2 := ltN 2 false (pcAt hq 2 rfl)
        simp only [Bool.false_eq_true, iff_false] at a2
        obtain ⟨k, rfl⟩ : ∃ k, n = k + 1 := ⟨n - 1, by omega⟩
        exact c1_3 hI F rf (hin (pcAt hq 0 rfl)) J t ht h2
      · exact c1_4 hI F rf (hin (pcAt hq 0 rfl)) J t ht h2
      · have a1 := ltN 1 false (pcAt hq 2 rfl)
        have a2 := ltN 2 true (pcAt hq 3 rfl)
        have a3 := ltC2 true (pcAt hq 4 rfl)
        simp only [Bool.false_eq_true, iff_false, iff_true] at a1 a2 a3
        obtain rfl : n = 1 := by omega
        exact c1_5 hI F rf (hin (pcAt hq 0 rfl)) J (by omega) t ht h2
      · have a1 := ltN 1 false (pcAt hq 2 rfl)
        have a2 := ltN 2 true (pcAt hq 3 rfl)
        simp only [Bool.false_eq_true, iff_false, iff_true] at a1 a2
        obtain rfl : n = 0 + 1 := by omega
        exact c1_6 hI F rf (hin (pcAt hq 0 rfl)) J t ht h2
      · have a2 := ltN 2 false (pcAt hq 2 rfl)
        simp only [Bool.false_eq_true, iff_false] at a2
        obtain ⟨k, rfl⟩ : ∃ k, n = k + 1 := ⟨n - 1, by omega⟩
        exact c1_7 hI F rf (hin (pcAt hq 0 rfl)) J t ht h2
      · exact c1_8 hI F rf (hin (pcAt hq 0 rfl)) J t ht h2
      · have a1 := ltS true (pcAt hq 2 rfl)
        have a2 := ltC false (pcAt hq 3 rfl)
        simp only [Bool.false_eq_true, iff_false, iff_true] at a1 a2
        exact c1_9 hI F rf (hin (pcAt hq 0 rfl)) J a1 (by omega) t ht h2
      · have a1 := ltS true (pcAt hq 2 rfl)
        simp only [iff_true] at a1
        exact c1_10 hI F rf (hin (pcAt hq 0 rfl)) J a1 t ht h2
      · exact c1_11 hI F rf (hin (pcAt hq 0 rfl)) J t ht h2
      · have a1 := ltS true (pcAt hq 2 rfl)
        have a2 := ltC false (pcAt hq 3 rfl)
        simp only [Bool.false_eq_true, iff_false, iff_true] at a1 a2
        exact c1_12 hI F rf (hin (pcAt hq 0 rfl)) J a1 (by omega) t ht h2
      · have a1 := ltS true (pcAt hq 2 rfl)
        simp only [iff_true] at a1
        exact c1_13 hI F rf (hin (pcAt hq 0 rfl)) J a1 t ht h2
end Go.Proofs.Ytjcphbcjnjeccaa
end

section
namespace Go.Proofs.Ytjcphbcjnjeccaa
open Go Go.Sy Go.RowKit

def argsDnV (v : SV) : List SV := [.int .i64 (.var 11), .int .u64 (.var 12), v]
def viewDn : SV := .sl 0 (.var 8) (.len (.var 0)) (.var 9)
def pvDn : PC := [(.lt (.var 8) (.lit 0), false), (.lt (.var 9) (.len (.var 0)), false)]
def rDn : SB := rightB 1 (.lit 0) (.var 11)
/-- sizes that may not be, or of more than 32 slots: nothing is said; more than 100 deeds: nothing either. -/
def pcNo (pv : PC) : PC := (simpC pv rDn, false) :: pv
def pcBig (pv : PC) : PC := (rDn, true) :: (.lt (.lit 32) (.var 11), true) :: pv
def pcMany (pv : PC) : PC := (rDn, true) :: (.lt (.lit 32) (.var 11), false) :: (.lt (.lit 100) (.len (.var 0)), true) :: pv
def pcFew : PC := [(rDn, true), (.lt (.var 11) (.lit 2), false), (.lt (.lit 32) (.var 11), false)]
end Go.Proofs.Ytjcphbcjnjeccaa
end

section
namespace Go.Proofs.Ytjcphbcjnjeccaa
open Go Go.Sy Go.RowKit

def ouDn : List CLeaf := [
  ⟨false, (.bool (.lit false)), [((.lit false), true), ((.and (.lt (.mul (.lit 1) (.var 11)) (.lit 65535)) (.or (.lt (.var 11) (.lit 3)) (.or (.eq (.var 11) (.lit 4)) (.or (.eq (.var 11) (.lit 8)) (.or (.eq (.var 11) (.lit 16)) (.not (.lt (.var 11) (.lit 32)))))))), true), ((.lt (.var 8) (.lit 0)), false), ((.lt (.var 9) (.len (.var 0))), false), ((.lt (.var 11) (.lit 2)), false), ((.lt (.lit 32) (.var 11)), false), ((.or (.eq (.var 11) (.lit 2)) (.or (.eq (.var 11) (.lit 4)) (.or (.eq (.var 11) (.lit 8)) (.or (.eq (.var 11) (.lit 16)) (.or (.eq (.var 11) (.lit 32)) (.or (.eq (.var 11) (.lit 64)) (.or (.eq (.var 11) (.lit 128)) (.eq (.var 11) (.lit 256))))))))), true), ((.and (.not (.lt (.lit 0) (.lit 0))) (.and (.lt (.lit 0) (.sub (.lit 65535) (.mul (.lit 1) (.var 11)))) (.or (.eq (.var 11) (.lit 2)) (.or (.eq (.var 11) (.lit 4)) (.or (.eq (.var 11) (.lit 8)) (.or (.eq (.var 11) (.lit 16)) (.or (.eq (.var 11) (.lit 32)) (.or (.eq (.var 11) (.lit 64)) (.or (.eq (.var 11) (.lit 128)) (.eq (.var 11) (.lit 256))))))))))), true), ((.lt (.lit 100) (.len (.var 0))), false), ((.lt (.var 12) (.lit 0)), false), ((.lt (.lit 18446744073709551615) (.var 12)), false), ((.gb 0 (.app 45 (.var 0) (.var 0) (.lit 0) (.lit 255) (.lit 0) (.lit 0) (.var 0)) (.lit 0) (.lit 0)), true)], []⟩]
def restDn : List (Bool × SV × PC) := ouDn.map fun c => (c.bad, c.v, c.pc)
theorem runDn : restOf (runX Try.prog (oDnL Try.prog) fDn (argsDnV viewDn) pcDn hpDn) = some restDn := by kernel_rfl
theorem runDnNo : restOf (runX Try.prog (oDn Try.prog) fDn (argsDnV viewDn) (pcNo pvDn) hpDn) = some [] := by kernel_rfl
theorem runDnBig : restOf (runX Try.prog (oDn Try.prog) fDn (argsDnV viewDn) (pcBig pvDn) hpDn) = some [] := by kernel_rfl
theorem runDnMany : restOf (runX Try.prog (oDn Try.prog) fDn (argsDnV viewDn) (pcMany pvDn) hpDn) = some [] := by kernel_rfl
theorem runDnN1 : restOf (runX Try.prog (oDn Try.prog) fDn (argsDnV .nilSl) (pcNo []) []) = some [] := by kernel_rfl
theorem runDnN2 : restOf (runX Try.prog (oDn Try.prog) fDn (argsDnV .nilSl) (pcBig []) []) = some [] := by kernel_rfl
theorem runDnN3 : restOf (runX Try.prog (oDn Try.prog) fDn (argsDnV .nilSl) pcFew []) = some [] := by kernel_rfl
theorem runDnE1 : restOf (runX Try.prog (oDn Try.prog) fDn (argsDnV (.emp 0)) (pcNo []) []) = some [] := by kernel_rfl
theorem runDnE2 : restOf (runX Try.prog (oDn Try.prog) fDn (argsDnV (.emp 0)) (pcBig []) []) = some [] := by kernel_rfl
theorem runDnE3 : restOf (runX Try.prog (oDn Try.prog) fDn (argsDnV (.emp 0)) pcFew []) = some [] := by kernel_rfl
theorem rest_no (x : Bool × SV × PC) (hx : x ∈ restDn) {ν : Env Gh} (hp : pcDen ν x.2.2) : False := by
  simp only [restDn, ouDn, List.map_cons, List.map_nil, List.mem_cons, List.not_mem_nil, or_false] at hx
  subst hx
  have := pcAt hp 0 rfl
  simp [SB.den] at this
/-- what is known of the size -/
theorem rDn_den {ν : Env Gh} : rDn.den ν = true ↔ Right 1 0 (ν.i 11) := rightB_den ν 1 (.lit 0) (.var 11)
theorem no_den {ν : Env Gh} {pv : PC} (hv : pcDen ν pv) (h : ¬ Right 1 0 (ν.i 11)) : pcDen ν (pcNo pv) := by
  refine pcDen_cons ?_ hv
  rw [simpC_den hv]
  cases hr : rDn.den ν
  · rfl
  · exact absurd (rDn_den.1 hr) h
theorem big_den {ν : Env Gh} {pv : PC} (hv : pcDen ν pv) (h : Right 1 0 (ν.i 11)) (h2 : 32 < ν.i 11) : pcDen ν (pcBig pv) :=
  pcDen_cons (rDn_den.2 h) (pcDen_cons (lt_of (by simp only [SI.den]; simpa using h2)) hv)
theorem few_den {ν : Env Gh} (h : Right 1 0 (ν.i 11)) (h2 : ¬ 32 < ν.i 11) : pcDen ν pcFew := by
  have := h.2.2.le
  exact pcDen_cons (rDn_den.2 h) (pcDen_cons (lt_of (by simp only [SI.den]; simp; omega)) (pcDen_one (lt_of (by simp only [SI.den]; simpa using h2))))
theorem dn_calls (W : World) (ν : Env Gh) (hI : ν.I = inM) (g : Nat) (hg : g < W.heap.size) (h8 : 0 ≤ ν.i 8) (h9 : ((ν.l 0).length : Int) ≤ ν.i 9) (f0 : 0 ≤ ν.i 12) (f1 : ν.i 12 ≤ 18446744073709551615) (hr : ∀ x ∈ ν.l 0, 0 ≤ x ∧ x ≤ 255)
    (hcell : ∀ (j : Nat) (x : Int), (ν.l 0)[j]? = some x → W.cell? ⟨g, (ν.i 8).toNat + j, none⟩ = some (.int .u8 x)) : Calls Try.prog fDn (denL ν (fun _ => g) (argsDnV viewDn)).toArray W fun e w' => e = .returned (.bool true) ∧ Below W.heap.size W w' := by
  have hw : HW (baseOf W) ν (fun _ => g) hpDn W := (HW.empty _ _ _).addView (by simp) (by rw [baseOf_own]; omega) (by simpa only [SI.den] using h8) (by simpa [SI.den, SL.den, baseOf] using hcell)
  have hv : pcDen ν pvDn := pcDen_cons (lt_of (by simp only [SI.den]; simp; omega)) (pcDen_one (lt_of (by simp only [SI.den, SL.den]; simp; omega)))
  by_cases h1 : Right 1 0 (ν.i 11)
  · by_cases h2 : 32 < ν.i 11
    · exact law_auto pr oDn_ok runDnBig W ν (fun _ => g) hI (big_den hv h1 h2) hw
    · by_cases h3 : 100 < (ν.l 0).length
      · refine law_auto pr oDn_ok runDnMany W ν (fun _ => g) hI (pcDen_cons (rDn_den.2 h1) (pcDen_cons (lt_of (by simp only [SI.den]; simpa using h2)) (pcDen_cons (lt_of (by simp only [SI.den, SL.den]; simp; omega)) hv))) hw
      · have hp := h1.2.2
        have hle := hp.le
        refine law_rest pr oDnL_ok runDn W ν (fun _ => g) hI ?_ hw fun x hx ν' ρ' hag hp => (rest_no x hx hp).elim
        refine pcDen_cons (lt_of (by simp only [SI.den]; simp; omega)) (pcDen_cons (lt_of (by simp only [SI.den, SL.den]; simp; omega)) (pcDen_cons (lt_of (by simp only [SI.den]; simp; omega)) (pcDen_cons (lt_of (by simp only [SI.den]; simpa using h2)) (pcDen_cons ((powB_den ν (.var 11)).2 hp) (pcDen_cons (rDn_den.2 h1) (pcDen_cons (lt_of (by simp only [SI.den, SL.den]; simp; omega)) (pcDen_cons (lt_of (by simp only [SI.den]; simp; omega)) (pcDen_cons (lt_of (by simp only [SI.den]; simp; omega)) (pcDen_one ((range_den hI (.var 0) 0 255).2 hr))))))))))
  · exact law_auto pr oDn_ok runDnNo W ν (fun _ => g) hI (no_den hv h1) hw
theorem dn_nil (W : World) (ν : Env Gh) (hI : ν.I = inM) : Calls Try.prog fDn (denL ν (fun _ => 0) (argsDnV .nilSl)).toArray W fun e w' => e = .returned (.bool true) ∧ Below W.heap.size W w' := by
  by_cases h1 : Right 1 0 (ν.i 11)
  · by_cases h2 : 32 < ν.i 11
    · exact law_auto pr oDn_ok runDnN2 W ν (fun _ => 0) hI (big_den (pcDen_nil _) h1 h2) (HW.empty _ _ _)
    · exact law_auto pr oDn_ok runDnN3 W ν (fun _ => 0) hI (few_den h1 h2) (HW.empty _ _ _)
  · exact law_auto pr oDn_ok runDnN1 W ν (fun _ => 0) hI (no_den (pcDen_nil _) h1) (HW.empty _ _ _)
theorem dn_emp (W : World) (ν : Env Gh) (hI : ν.I = inM) : Calls Try.prog fDn (denL ν (fun _ => 0) (argsDnV (.emp 0))).toArray W fun e w' => e = .returned (.bool true) ∧ Below W.heap.size W w' := by
  by_cases h1 : Right 1 0 (ν.i 11)
  · by_cases h2 : 32 < ν.i 11
    · exact law_auto pr oDn_ok runDnE2 W ν (fun _ => 0) hI (big_den (pcDen_nil _) h1 h2) (HW.empty _ _ _)
    · exact law_auto pr oDn_ok runDnE3 W ν (fun _ => 0) hI (few_den h1 h2) (HW.empty _ _ _)
  · exact law_auto pr oDn_ok runDnE1 W ν (fun _ => 0) hI (no_den (pcDen_nil _) h1) (HW.empty _ _ _)
end Go.Proofs.Ytjcphbcjnjeccaa
end
