/- coachyardref32.Right: its state. -/
import Derived.Test.YtlmenjenkpnacaaSyH
import Derived.Test.YtlmenjenkpnacaaLwXA
import Derived.Test.YtlmenjenkpnacaaSyL
import Derived.Test.YtlmenjenkpnacaaLwXL
import Derived.Test.YtlmenjenkpnacaaLwSn32tn
import Derived.Test.YtlmenjenkpnacaaLwSn32td
import Derived.Test.YtlmenjenkpnacaaLwSn32pn
import Derived.Test.YtlmenjenkpnacaaLwSn32pd
import Derived.Test.YtlmenjenkpnacaaLwLk32tn
import Derived.Test.YtlmenjenkpnacaaLwLk32td
import Derived.Test.YtlmenjenkpnacaaLwLk32pn
set_option linter.unusedVariables false
set_option linter.unusedSimpArgs false

section
namespace Go.Proofs.Ytlmenjenkpnacaa
open Go Go.Sy Go.RowKit

def fR32 : Nat := 41
def tR32 : Tmpl := ⟨[.int .i64 (.var 0), .int .i64 (.var 1)], [], []⟩
end Go.Proofs.Ytlmenjenkpnacaa
end

section
namespace Go.Proofs.Ytlmenjenkpnacaa
open Go Go.Sy Go.RowKit

def ouR32 : List CLeaf := [
  ⟨false, (.bool (.lt (.var 0) (.wrap .i64 (.sub (.wrap .i64 (.sub (.lit 65536) (.wrap .i64 (.mul (.lit 2) (.var 1))))) (.lit 1))))), [((.lt (.var 0) (.lit 0)), false), ((.eq (.lit 2) (.var 1)), true)], []⟩,
  ⟨false, (.bool (.lit false)), [((.lt (.var 0) (.lit 0)), true), ((.eq (.lit 2) (.var 1)), true)], []⟩,
  ⟨false, (.bool (.lt (.var 0) (.wrap .i64 (.sub (.wrap .i64 (.sub (.lit 65536) (.wrap .i64 (.mul (.lit 2) (.var 1))))) (.lit 1))))), [((.lt (.var 0) (.lit 0)), false), ((.eq (.lit 4) (.var 1)), true), ((.eq (.lit 2) (.var 1)), false)], []⟩,
  ⟨false, (.bool (.lit false)), [((.lt (.var 0) (.lit 0)), true), ((.eq (.lit 4) (.var 1)), true), ((.eq (.lit 2) (.var 1)), false)], []⟩,
  ⟨false, (.bool (.lt (.var 0) (.wrap .i64 (.sub (.wrap .i64 (.sub (.lit 65536) (.wrap .i64 (.mul (.lit 2) (.var 1))))) (.lit 1))))), [((.lt (.var 0) (.lit 0)), false), ((.eq (.lit 8) (.var 1)), true), ((.eq (.lit 4) (.var 1)), false), ((.eq (.lit 2) (.var 1)), false)], []⟩,
  ⟨false, (.bool (.lit false)), [((.lt (.var 0) (.lit 0)), true), ((.eq (.lit 8) (.var 1)), true), ((.eq (.lit 4) (.var 1)), false), ((.eq (.lit 2) (.var 1)), false)], []⟩,
  ⟨false, (.bool (.lt (.var 0) (.wrap .i64 (.sub (.wrap .i64 (.sub (.lit 65536) (.wrap .i64 (.mul (.lit 2) (.var 1))))) (.lit 1))))), [((.lt (.var 0) (.lit 0)), false), ((.eq (.lit 16) (.var 1)), true), ((.eq (.lit 8) (.var 1)), false), ((.eq (.lit 4) (.var 1)), false), ((.eq (.lit 2) (.var 1)), false)], []⟩,
  ⟨false, (.bool (.lit false)), [((.lt (.var 0) (.lit 0)), true), ((.eq (.lit 16) (.var 1)), true), ((.eq (.lit 8) (.var 1)), false), ((.eq (.lit 4) (.var 1)), false), ((.eq (.lit 2) (.var 1)), false)], []⟩,
  ⟨false, (.bool (.lt (.var 0) (.wrap .i64 (.sub (.wrap .i64 (.sub (.lit 65536) (.wrap .i64 (.mul (.lit 2) (.var 1))))) (.lit 1))))), [((.lt (.var 0) (.lit 0)), false), ((.eq (.lit 32) (.var 1)), true), ((.eq (.lit 16) (.var 1)), false), ((.eq (.lit 8) (.var 1)), false), ((.eq (.lit 4) (.var 1)), false), ((.eq (.lit 2) (.var 1)), false)], []⟩,
  ⟨false, (.bool (.lit false)), [((.lt (.var 0) (.lit 0)), true), ((.eq (.lit 32) (.var 1)), true), ((.eq (.lit 16) (.var 1)), false), ((.eq (.lit 8) (.var 1)), false), ((.eq (.lit 4) (.var 1)), false), ((.eq (.lit 2) (.var 1)), false)], []⟩,
  ⟨false, (.bool (.lt (.var 0) (.wrap .i64 (.sub (.wrap .i64 (.sub (.lit 65536) (.wrap .i64 (.mul (.lit 2) (.var 1))))) (.lit 1))))), [((.lt (.var 0) (.lit 0)), false), ((.eq (.lit 64) (.var 1)), true), ((.eq (.lit 32) (.var 1)), false), ((.eq (.lit 16) (.var 1)), false), ((.eq (.lit 8) (.var 1)), false), ((.eq (.lit 4) (.var 1)), false), ((.eq (.lit 2) (.var 1)), false)], []⟩,
  ⟨false, (.bool (.lit false)), [((.lt (.var 0) (.lit 0)), true), ((.eq (.lit 64) (.var 1)), true), ((.eq (.lit 32) (.var 1)), false), ((.eq (.lit 16) (.var 1)), false), ((.eq (.lit 8) (.var 1)), false), ((.eq (.lit 4) (.var 1)), false), ((.eq (.lit 2) (.var 1)), false)], []⟩,
  ⟨false, (.bool (.lt (.var 0) (.wrap .i64 (.sub (.wrap .i64 (.sub (.lit 65536) (.wrap .i64 (.mul (.lit 2) (.var 1))))) (.lit 1))))), [((.lt (.var 0) (.lit 0)), false), ((.eq (.lit 128) (.var 1)), true), ((.eq (.lit 64) (.var 1)), false), ((.eq (.lit 32) (.var 1)), false), ((.eq (.lit 16) (.var 1)), false), ((.eq (.lit 8) (.var 1)), false), ((.eq (.lit 4) (.var 1)), false), ((.eq (.lit 2) (.var 1)), false)], []⟩,
  ⟨false, (.bool (.lit false)), [((.lt (.var 0) (.lit 0)), true), ((.eq (.lit 128) (.var 1)), true), ((.eq (.lit 64) (.var 1)), false), ((.eq (.lit 32) (.var 1)), false), ((.eq (.lit 16) (.var 1)), false), ((.eq (.lit 8) (.var 1)), false), ((.eq (.lit 4) (.var 1)), false), ((.eq (.lit 2) (.var 1)), false)], []⟩,
  ⟨false, (.bool (.lt (.var 0) (.wrap .i64 (.sub (.wrap .i64 (.sub (.lit 65536) (.wrap .i64 (.mul (.lit 2) (.var 1))))) (.lit 1))))), [((.lt (.var 0) (.lit 0)), false), ((.eq (.lit 256) (.var 1)), true), ((.eq (.lit 128) (.var 1)), false), ((.eq (.lit 64) (.var 1)), false), ((.eq (.lit 32) (.var 1)), false), ((.eq (.lit 16) (.var 1)), false), ((.eq (.lit 8) (.var 1)), false), ((.eq (.lit 4) (.var 1)), false), ((.eq (.lit 2) (.var 1)), false)], []⟩,
  ⟨false, (.bool (.lit false)), [((.lt (.var 0) (.lit 0)), true), ((.eq (.lit 256) (.var 1)), true), ((.eq (.lit 128) (.var 1)), false), ((.eq (.lit 64) (.var 1)), false), ((.eq (.lit 32) (.var 1)), false), ((.eq (.lit 16) (.var 1)), false), ((.eq (.lit 8) (.var 1)), false), ((.eq (.lit 4) (.var 1)), false), ((.eq (.lit 2) (.var 1)), false)], []⟩,
  ⟨false, (.bool (.lit false)), [((.eq (.lit 256) (.var 1)), false), ((.eq (.lit 128) (.var 1)), false), ((.eq (.lit 64) (.var 1)), false), ((.eq (.lit 32) (.var 1)), false), ((.eq (.lit 16) (.var 1)), false), ((.eq (.lit 8) (.var 1)), false), ((.eq (.lit 4) (.var 1)), false), ((.eq (.lit 2) (.var 1)), false)], []⟩]
theorem runR32 : runX Try.prog noOrac fR32 tR32.args tR32.pc tR32.hp = some ouR32 := by kernel_rfl
def shR32 : List CLeaf := [⟨false, .bool (.lit true), [(rightB 2 (.var 0) (.var 1), true)], []⟩, ⟨false, .bool (.lit false), [(rightB 2 (.var 0) (.var 1), false)], []⟩]
theorem shR32_ok {G : Type} {I : In G} : ∀ c ∈ ouR32, ∀ ν : Env G, ν.I = I → pcDen ν c.pc → ∃ c' ∈ shR32, c'.bad = c.bad ∧ (∀ ρ, c'.v.den ν ρ = c.v.den ν ρ) ∧ c'.hp.Sublist c.hp ∧ pcDen ν c'.pc := by
  intro c hc ν hI hp
  have hR := rightB_den ν 2 (.var 0) (.var 1)
  have hN := rightB_no ν 2 (.var 0) (.var 1)
  simp only [SI.den] at hR hN
  have yes : Right 2 (ν.i 0) (ν.i 1) → ∃ c' ∈ shR32, c'.bad = false ∧ (∀ ρ, c'.v.den ν ρ = .bool true) ∧ c'.hp.Sublist [] ∧ pcDen ν c'.pc := fun h =>
    ⟨_, List.mem_cons_self .., rfl, fun _ => rfl, List.Sublist.refl _, pcDen_one (hR.2 h)⟩
  have no : ¬ Right 2 (ν.i 0) (ν.i 1) → ∃ c' ∈ shR32, c'.bad = false ∧ (∀ ρ, c'.v.den ν ρ = .bool false) ∧ c'.hp.Sublist [] ∧ pcDen ν c'.pc := fun h =>
    ⟨_, List.mem_of_getElem? (show shR32[1]? = some _ from rfl), rfl, fun _ => rfl, List.Sublist.refl _, pcDen_one (hN.2 h)⟩
  have lt : ∀ k : Int, ν.i 1 = k → (2 ≤ k ∧ k ≤ 256) → (SB.lt (.var 0) (.wrap .i64 (.sub (.wrap .i64 (.sub (.lit 65536) (.wrap .i64 (.mul (.lit 2) (.var 1))))) (.lit 1)))).den ν = decide (ν.i 0 < 65535 - 2 * k) := fun k hk h => by
    simp only [SB.den]
    simp only [SI.den, hk]
    rw [wrapS (2 * k) (by omega) (by omega), wrapS (65536 - 2 * k) (by omega) (by omega), wrapS _ (by omega) (by omega)]
    congr 1
    simp only [eq_iff_iff]
    omega
  have step : ∀ k : Int, Pow k → ν.i 1 = k → ¬ ν.i 0 < 0 → ∃ c' ∈ shR32, c'.bad = false ∧ (∀ ρ, c'.v.den ν ρ = .bool ((SB.lt (.var 0) (.wrap .i64 (.sub (.wrap .i64 (.sub (.lit 65536) (.wrap .i64 (.mul (.lit 2) (.var 1))))) (.lit 1)))).den ν)) ∧ c'.hp.Sublist [] ∧ pcDen ν c'.pc := by
    intro k hk hv h0
    have := hk.le
    by_cases hr : ν.i 0 < 65535 - 2 * k
    · rw [lt k hv this, decide_eq_true hr]
      exact yes ⟨by omega, by rw [hv]; omega, by rw [hv]; exact hk⟩
    · rw [lt k hv this, decide_eq_false hr]
      exact no fun ⟨_, r2, _⟩ => by rw [hv] at r2; omega
  simp only [ouR32, List.mem_cons, List.not_mem_nil, or_false] at hc
  rcases hc with rfl | rfl | rfl | rfl | rfl | rfl | rfl | rfl | rfl | rfl | rfl | rfl | rfl | rfl | rfl | rfl | rfl
  all_goals
    simp only [pcDen_cons_iff, SB.den, decide_eq_true_eq, decide_eq_false_iff_not, beq_iff_eq, beq_eq_false_iff_ne] at hp
    simp only [SI.den, SL.den] at hp
  · exact step 2 (by unfold Pow; omega) hp.2.1.symm hp.1
  · exact no fun ⟨r1, _, _⟩ => by omega
  · exact step 4 (by unfold Pow; omega) hp.2.1.symm hp.1
  · exact no fun ⟨r1, _, _⟩ => by omega
  · exact step 8 (by unfold Pow; omega) hp.2.1.symm hp.1
  · exact no fun ⟨r1, _, _⟩ => by omega
  · exact step 16 (by unfold Pow; omega) hp.2.1.symm hp.1
  · exact no fun ⟨r1, _, _⟩ => by omega
  · exact step 32 (by unfold Pow; omega) hp.2.1.symm hp.1
  · exact no fun ⟨r1, _, _⟩ => by omega
  · exact step 64 (by unfold Pow; omega) hp.2.1.symm hp.1
  · exact no fun ⟨r1, _, _⟩ => by omega
  · exact step 128 (by unfold Pow; omega) hp.2.1.symm hp.1
  · exact no fun ⟨r1, _, _⟩ => by omega
  · exact step 256 (by unfold Pow; omega) hp.2.1.symm hp.1
  · exact no fun ⟨r1, _, _⟩ => by omega
  · exact no fun ⟨_, _, r3⟩ => by unfold Pow at r3; omega
theorem right32_ok {O : Orac} {G : Type} {I : In G} (oo : OOK Try.prog O I) : OOK Try.prog (O.withCallF fR32 (sumK Try.prog tR32 (splitL shR32))) I := withCallF_ok oo (sum_okC pr noOrac_ok runR32 (splitL_ok shR32_ok) oo)
end Go.Proofs.Ytlmenjenkpnacaa
end

section
namespace Go.Proofs.Ytlmenjenkpnacaa
open Go Go.Sy Go.RowKit

/-- a size that may be; a place; room for it -/
def topR (k : Int) (a c : SI) : SB := .lt a (.sub (.lit 65535) (.mul (.lit k) c))
def shS3R : List CLeaf := [⟨false, .bool (.lit true), [(powB (.var 1), true), (.lt (.var 0) (.lit 0), false), (topR 2 (.var 0) (.var 1), true)], []⟩,
  ⟨false, .bool (.lit false), [(powB (.var 1), false)], []⟩, ⟨false, .bool (.lit false), [(powB (.var 1), true), (.lt (.var 0) (.lit 0), true)], []⟩,
  ⟨false, .bool (.lit false), [(powB (.var 1), true), (.lt (.var 0) (.lit 0), false), (topR 2 (.var 0) (.var 1), false)], []⟩]
theorem shS3R_ok {G : Type} {I : In G} : ∀ c ∈ ouR32, ∀ ν : Env G, ν.I = I → pcDen ν c.pc → ∃ c' ∈ shS3R, c'.bad = c.bad ∧ (∀ ρ, c'.v.den ν ρ = c.v.den ν ρ) ∧ c'.hp.Sublist c.hp ∧ pcDen ν c'.pc := by
  intro c hc ν hI hp
  obtain ⟨c1, h1, e1, e2, e3, e4⟩ := shR32_ok c hc ν hI hp
  have t : ∀ b : SB, b.den ν = true ∨ b.den ν = false := fun b => by cases b.den ν <;> simp
  simp only [shR32, List.mem_cons, List.not_mem_nil, or_false] at h1
  rcases h1 with rfl | rfl
  · have h := (rightB_den ν 2 (.var 0) (.var 1)).1 (pcAt e4 0 rfl)
    obtain ⟨g1, g2, g3⟩ := h
    simp only [SI.den] at g1 g2 g3
    refine ⟨_, List.mem_cons_self .., e1, e2, e3, pcDen_cons ((powB_den ν (.var 1)).2 g3) (pcDen_cons (lt_of ?_) (pcDen_one (lt_of ?_)))⟩
    · simp only [SI.den, Bool.false_eq_true, iff_false]; omega
    · simp only [SI.den, iff_true]; omega
  · have h := (rightB_no ν 2 (.var 0) (.var 1)).1 (pcAt e4 0 rfl)
    rcases t (powB (.var 1)) with p | p
    · rcases t (.lt (.var 0) (.lit 0)) with q | q
      · exact ⟨_, List.mem_of_getElem? (show shS3R[2]? = some _ from rfl), e1, e2, e3, pcDen_cons p (pcDen_one q)⟩
      · rcases t (topR 2 (.var 0) (.var 1)) with r | r
        · refine (h ⟨?_, ?_, (powB_den ν (.var 1)).1 p⟩).elim
          · simp only [SB.den, decide_eq_false_iff_not] at q; simp only [SI.den] at q ⊢; omega
          · simp only [topR, SB.den, decide_eq_true_eq] at r; simp only [SI.den] at r ⊢; omega
        · exact ⟨_, List.mem_of_getElem? (show shS3R[3]? = some _ from rfl), e1, e2, e3, pcDen_cons p (pcDen_cons q (pcDen_one r))⟩
    · exact ⟨_, List.mem_of_getElem? (show shS3R[1]? = some _ from rfl), e1, e2, e3, pcDen_one p⟩
theorem rightS3_ok {O : Orac} {G : Type} {I : In G} (oo : OOK Try.prog O I) : OOK Try.prog (O.withCallF fR32 (sumK Try.prog tR32 shS3R)) I := withCallF_ok oo (sum_okC pr noOrac_ok runR32 shS3R_ok oo)
end Go.Proofs.Ytlmenjenkpnacaa
end

section
namespace Go.Proofs.Ytlmenjenkpnacaa
open Go Go.Sy Go.RowKit

def ouLk32tn : List CLeaf := [
  ⟨false, (.bool (.lit true)), [((.gb 0 (.app 76 (.var 2) (.app 81 (.var 1) (.var 0) (.add (.var 7) (.lit 1)) (.lit 0) (.lit 0) (.lit 0) (.cons (.var 0) (.cons (.var 1) (.cons (.lit 0) (.cons (.lit 0) (.cons (.lit 1) (.cons (.lit 0) (.cons (.lit 0) (.cons (.lit 0) (.cons (.lit 0) .nil)))))))))) (.lit 0) (.lit 0) (.lit 0) (.lit 0) .nil) (.lit 0) (.lit 0)), true), ((.eq (.gi 17 (.app 78 (.var 2) (.var 0) (.lit 121) (.lit 10) (.var 2) (.lit 0) (.cons (.lit 3) (.cons (.lit 3) (.cons (.lit 7) (.cons (.lit 7) (.cons (.lit 8) (.cons (.lit 3) (.cons (.lit 7) (.cons (.lit 10) (.cons (.lit 8) (.cons (.lit 10) .nil))))))))))) (.lit 0) (.lit 0)) (.add (.var 7) (.lit 1))), true), ((.lt (.var 0) (.lit 0)), false), ((.lt (.var 0) (.sub (.lit 65535) (.mul (.lit 2) (.var 1)))), true), ((.lt (.var 1) (.lit 2)), false), ((.lt (.lit 256) (.var 1)), false), ((.or (.eq (.var 1) (.lit 2)) (.or (.eq (.var 1) (.lit 4)) (.or (.eq (.var 1) (.lit 8)) (.or (.eq (.var 1) (.lit 16)) (.or (.eq (.var 1) (.lit 32)) (.or (.eq (.var 1) (.lit 64)) (.or (.eq (.var 1) (.lit 128)) (.eq (.var 1) (.lit 256))))))))), true), ((.lt (.var 7) (.lit 0)), false), ((.lt (.lit 200) (.var 7)), false), ((.lt (.var 8) (.lit 0)), false), ((.gb 0 (.app 83 (.var 1) (.var 0) (.lit 0) (.lit 0) (.lit 0) (.lit 0) .nil) (.lit 0) (.lit 0)), true)], [(1, (.tab 10 (.var 1) [some .u64, none] (.var 8) (.var 7)))]⟩,
  ⟨false, (.bool (.lit false)), [((.lit false), true), ((.gb 0 (.app 76 (.var 2) (.app 81 (.var 1) (.var 0) (.add (.var 7) (.lit 1)) (.lit 0) (.lit 0) (.lit 0) (.cons (.var 0) (.cons (.var 1) (.cons (.lit 0) (.cons (.lit 0) (.cons (.lit 1) (.cons (.lit 0) (.cons (.lit 0) (.cons (.lit 0) (.cons (.lit 0) .nil)))))))))) (.lit 0) (.lit 0) (.lit 0) (.lit 0) .nil) (.lit 0) (.lit 0)), true), ((.eq (.gi 17 (.app 78 (.var 2) (.var 0) (.lit 121) (.lit 10) (.var 2) (.lit 0) (.cons (.lit 3) (.cons (.lit 3) (.cons (.lit 7) (.cons (.lit 7) (.cons (.lit 8) (.cons (.lit 3) (.cons (.lit 7) (.cons (.lit 10) (.cons (.lit 8) (.cons (.lit 10) .nil))))))))))) (.lit 0) (.lit 0)) (.add (.var 7) (.lit 1))), true), ((.lt (.var 0) (.lit 0)), false), ((.lt (.var 0) (.sub (.lit 65535) (.mul (.lit 2) (.var 1)))), true), ((.lt (.var 1) (.lit 2)), false), ((.lt (.lit 256) (.var 1)), false), ((.or (.eq (.var 1) (.lit 2)) (.or (.eq (.var 1) (.lit 4)) (.or (.eq (.var 1) (.lit 8)) (.or (.eq (.var 1) (.lit 16)) (.or (.eq (.var 1) (.lit 32)) (.or (.eq (.var 1) (.lit 64)) (.or (.eq (.var 1) (.lit 128)) (.eq (.var 1) (.lit 256))))))))), true), ((.lt (.var 7) (.lit 0)), false), ((.lt (.lit 200) (.var 7)), false), ((.lt (.var 8) (.lit 0)), false), ((.gb 0 (.app 83 (.var 1) (.var 0) (.lit 0) (.lit 0) (.lit 0) (.lit 0) .nil) (.lit 0) (.lit 0)), true)], []⟩]
def ouLk32td : List CLeaf := [
  ⟨false, (.bool (.lit true)), [((.gb 0 (.app 76 (.var 2) (.app 81 (.var 1) (.var 0) (.add (.var 7) (.lit 1)) (.lit 0) (.lit 0) (.lit 0) (.cons (.lit 0) (.cons (.lit 0) (.cons (.lit 0) (.cons (.lit 0) (.cons (.lit 1) (.cons (.lit 0) (.cons (.lit 1) (.cons (.lit 2) (.cons (.lit 0) .nil)))))))))) (.lit 0) (.lit 0) (.lit 0) (.lit 0) .nil) (.lit 0) (.lit 0)), true), ((.eq (.gi 17 (.app 78 (.var 2) (.var 0) (.lit 121) (.lit 10) (.var 2) (.lit 0) (.cons (.lit 3) (.cons (.lit 3) (.cons (.lit 7) (.cons (.lit 7) (.cons (.lit 8) (.cons (.lit 3) (.cons (.lit 7) (.cons (.lit 10) (.cons (.lit 8) (.cons (.lit 10) .nil))))))))))) (.lit 0) (.lit 0)) (.add (.var 7) (.lit 1))), true), ((.lt (.var 7) (.lit 0)), false), ((.lt (.lit 200) (.var 7)), false), ((.lt (.var 8) (.lit 0)), false), ((.gb 0 (.app 83 (.var 1) (.var 0) (.lit 0) (.lit 0) (.lit 0) (.lit 0) .nil) (.lit 0) (.lit 0)), true)], [(1, (.tab 10 (.var 1) [some .u64, none] (.var 8) (.var 7)))]⟩,
  ⟨false, (.bool (.lit false)), [((.lit false), true), ((.gb 0 (.app 76 (.var 2) (.app 81 (.var 1) (.var 0) (.add (.var 7) (.lit 1)) (.lit 0) (.lit 0) (.lit 0) (.cons (.lit 0) (.cons (.lit 0) (.cons (.lit 0) (.cons (.lit 0) (.cons (.lit 1) (.cons (.lit 0) (.cons (.lit 1) (.cons (.lit 2) (.cons (.lit 0) .nil)))))))))) (.lit 0) (.lit 0) (.lit 0) (.lit 0) .nil) (.lit 0) (.lit 0)), true), ((.eq (.gi 17 (.app 78 (.var 2) (.var 0) (.lit 121) (.lit 10) (.var 2) (.lit 0) (.cons (.lit 3) (.cons (.lit 3) (.cons (.lit 7) (.cons (.lit 7) (.cons (.lit 8) (.cons (.lit 3) (.cons (.lit 7) (.cons (.lit 10) (.cons (.lit 8) (.cons (.lit 10) .nil))))))))))) (.lit 0) (.lit 0)) (.add (.var 7) (.lit 1))), true), ((.lt (.var 7) (.lit 0)), false), ((.lt (.lit 200) (.var 7)), false), ((.lt (.var 8) (.lit 0)), false), ((.gb 0 (.app 83 (.var 1) (.var 0) (.lit 0) (.lit 0) (.lit 0) (.lit 0) .nil) (.lit 0) (.lit 0)), true)], []⟩]
def ouLk32pn : List CLeaf := [
  ⟨false, (.bool (.lit true)), [((.gb 0 (.app 76 (.var 2) (.app 81 (.var 1) (.var 0) (.add (.var 7) (.lit 1)) (.lit 0) (.lit 0) (.lit 0) (.cons (.var 0) (.cons (.var 1) (.cons (.lit 1) (.cons (.var 3) (.cons (.lit 1) (.cons (.lit 0) (.cons (.lit 0) (.cons (.lit 0) (.cons (.lit 0) .nil)))))))))) (.lit 0) (.lit 0) (.lit 0) (.lit 0) .nil) (.lit 0) (.lit 0)), true), ((.eq (.gi 17 (.app 78 (.var 2) (.var 0) (.lit 121) (.lit 10) (.var 2) (.lit 0) (.cons (.lit 3) (.cons (.lit 3) (.cons (.lit 7) (.cons (.lit 7) (.cons (.lit 8) (.cons (.lit 3) (.cons (.lit 7) (.cons (.lit 10) (.cons (.lit 8) (.cons (.lit 10) .nil))))))))))) (.lit 0) (.lit 0)) (.add (.var 7) (.lit 1))), true), ((.lt (.var 0) (.lit 0)), false), ((.lt (.var 0) (.sub (.lit 65535) (.mul (.lit 2) (.var 1)))), true), ((.lt (.var 1) (.lit 2)), false), ((.lt (.lit 256) (.var 1)), false), ((.or (.eq (.var 1) (.lit 2)) (.or (.eq (.var 1) (.lit 4)) (.or (.eq (.var 1) (.lit 8)) (.or (.eq (.var 1) (.lit 16)) (.or (.eq (.var 1) (.lit 32)) (.or (.eq (.var 1) (.lit 64)) (.or (.eq (.var 1) (.lit 128)) (.eq (.var 1) (.lit 256))))))))), true), ((.lt (.var 3) (.lit 0)), false), ((.lt (.var 3) (.lit 18446744073709551616)), true), ((.lt (.var 7) (.lit 0)), false), ((.lt (.lit 200) (.var 7)), false), ((.lt (.var 8) (.lit 0)), false), ((.gb 0 (.app 83 (.var 1) (.var 0) (.lit 0) (.lit 0) (.lit 0) (.lit 0) .nil) (.lit 0) (.lit 0)), true)], [(1, (.tab 10 (.var 1) [some .u64, none] (.var 8) (.var 7)))]⟩,
  ⟨false, (.bool (.lit false)), [((.lit false), true), ((.gb 0 (.app 76 (.var 2) (.app 81 (.var 1) (.var 0) (.add (.var 7) (.lit 1)) (.lit 0) (.lit 0) (.lit 0) (.cons (.var 0) (.cons (.var 1) (.cons (.lit 1) (.cons (.var 3) (.cons (.lit 1) (.cons (.lit 0) (.cons (.lit 0) (.cons (.lit 0) (.cons (.lit 0) .nil)))))))))) (.lit 0) (.lit 0) (.lit 0) (.lit 0) .nil) (.lit 0) (.lit 0)), true), ((.eq (.gi 17 (.app 78 (.var 2) (.var 0) (.lit 121) (.lit 10) (.var 2) (.lit 0) (.cons (.lit 3) (.cons (.lit 3) (.cons (.lit 7) (.cons (.lit 7) (.cons (.lit 8) (.cons (.lit 3) (.cons (.lit 7) (.cons (.lit 10) (.cons (.lit 8) (.cons (.lit 10) .nil))))))))))) (.lit 0) (.lit 0)) (.add (.var 7) (.lit 1))), true), ((.lt (.var 0) (.lit 0)), false), ((.lt (.var 0) (.sub (.lit 65535) (.mul (.lit 2) (.var 1)))), true), ((.lt (.var 1) (.lit 2)), false), ((.lt (.lit 256) (.var 1)), false), ((.or (.eq (.var 1) (.lit 2)) (.or (.eq (.var 1) (.lit 4)) (.or (.eq (.var 1) (.lit 8)) (.or (.eq (.var 1) (.lit 16)) (.or (.eq (.var 1) (.lit 32)) (.or (.eq (.var 1) (.lit 64)) (.or (.eq (.var 1) (.lit 128)) (.eq (.var 1) (.lit 256))))))))), true), ((.lt (.var 3) (.lit 0)), false), ((.lt (.var 3) (.lit 18446744073709551616)), true), ((.lt (.var 7) (.lit 0)), false), ((.lt (.lit 200) (.var 7)), false), ((.lt (.var 8) (.lit 0)), false), ((.gb 0 (.app 83 (.var 1) (.var 0) (.lit 0) (.lit 0) (.lit 0) (.lit 0) .nil) (.lit 0) (.lit 0)), true)], []⟩]
def oLk32tn (P : Program) : Orac := ((oL3 P).withLoopF fLk 4 nLk (eLk32 P false false).fr (eLk32 P false false).hp (mkM nLk (gLk (eLk32 P false false).fr) (bdLk32 P false false)))
theorem runLk32tn : runX Try.prog (oLk32tn Try.prog) fLk (tLk32 false false).args (tLk32 false false).pc (tLk32 false false).hp = some ouLk32tn := by kernel_rfl
theorem oLk32tn_ok : OOK Try.prog (oLk32tn Try.prog) inM := withLoopF_ok oL3_ok32tn (loopLk32tn oL3_ok32tn)
def shLk32tn : List CLeaf := ouLk32tn.take 1
theorem shLk32tn_ok : ∀ c ∈ ouLk32tn, ∀ ν : Env Gh, ν.I = inM → pcDen ν c.pc → ∃ c' ∈ shLk32tn, c'.bad = c.bad ∧ (∀ ρ, c'.v.den ν ρ = c.v.den ν ρ) ∧ c'.hp.Sublist c.hp ∧ pcDen ν c'.pc := by
  intro c hc ν hI hp
  simp only [ouLk32tn, List.mem_cons, List.not_mem_nil, or_false] at hc
  rcases hc with rfl | rfl
  · exact ⟨_, List.mem_of_getElem? (show shLk32tn[0]? = some _ from rfl), rfl, fun _ => rfl, List.Sublist.refl _, hp⟩
  · have := pcAt hp 0 rfl
    simp [SB.den] at this
theorem like32tn_ok {O : Orac} (oo : OOK Try.prog O inM) : OOK Try.prog (O.withCallF fLk (sumK Try.prog (tLk32 false false) shLk32tn)) inM := withCallF_ok oo (sum_okC pr oLk32tn_ok runLk32tn shLk32tn_ok oo)
def oLk32td (P : Program) : Orac := ((oL3 P).withLoopF fLk 4 nLk (eLk32 P false true).fr (eLk32 P false true).hp (mkM nLk (gLk (eLk32 P false true).fr) (bdLk32 P false true)))
theorem runLk32td : runX Try.prog (oLk32td Try.prog) fLk (tLk32 false true).args (tLk32 false true).pc (tLk32 false true).hp = some ouLk32td := by kernel_rfl
theorem oLk32td_ok : OOK Try.prog (oLk32td Try.prog) inM := withLoopF_ok oL3_ok32td (loopLk32td oL3_ok32td)
def shLk32td : List CLeaf := ouLk32td.take 1
theorem shLk32td_ok : ∀ c ∈ ouLk32td, ∀ ν : Env Gh, ν.I = inM → pcDen ν c.pc → ∃ c' ∈ shLk32td, c'.bad = c.bad ∧ (∀ ρ, c'.v.den ν ρ = c.v.den ν ρ) ∧ c'.hp.Sublist c.hp ∧ pcDen ν c'.pc := by
  intro c hc ν hI hp
  simp only [ouLk32td, List.mem_cons, List.not_mem_nil, or_false] at hc
  rcases hc with rfl | rfl
  · exact ⟨_, List.mem_of_getElem? (show shLk32td[0]? = some _ from rfl), rfl, fun _ => rfl, List.Sublist.refl _, hp⟩
  · have := pcAt hp 0 rfl
    simp [SB.den] at this
theorem like32td_ok {O : Orac} (oo : OOK Try.prog O inM) : OOK Try.prog (O.withCallF fLk (sumK Try.prog (tLk32 false true) shLk32td)) inM := withCallF_ok oo (sum_okC pr oLk32td_ok runLk32td shLk32td_ok oo)
def oLk32pn (P : Program) : Orac := ((oL3 P).withLoopF fLk 4 nLk (eLk32 P true false).fr (eLk32 P true false).hp (mkM nLk (gLk (eLk32 P true false).fr) (bdLk32 P true false)))
theorem runLk32pn : runX Try.prog (oLk32pn Try.prog) fLk (tLk32 true false).args (tLk32 true false).pc (tLk32 true false).hp = some ouLk32pn := by kernel_rfl
theorem oLk32pn_ok : OOK Try.prog (oLk32pn Try.prog) inM := withLoopF_ok oL3_ok32pn (loopLk32pn oL3_ok32pn)
def shLk32pn : List CLeaf := ouLk32pn.take 1
theorem shLk32pn_ok : ∀ c ∈ ouLk32pn, ∀ ν : Env Gh, ν.I = inM → pcDen ν c.pc → ∃ c' ∈ shLk32pn, c'.bad = c.bad ∧ (∀ ρ, c'.v.den ν ρ = c.v.den ν ρ) ∧ c'.hp.Sublist c.hp ∧ pcDen ν c'.pc := by
  intro c hc ν hI hp
  simp only [ouLk32pn, List.mem_cons, List.not_mem_nil, or_false] at hc
  rcases hc with rfl | rfl
  · exact ⟨_, List.mem_of_getElem? (show shLk32pn[0]? = some _ from rfl), rfl, fun _ => rfl, List.Sublist.refl _, hp⟩
  · have := pcAt hp 0 rfl
    simp [SB.den] at this
theorem like32pn_ok {O : Orac} (oo : OOK Try.prog O inM) : OOK Try.prog (O.withCallF fLk (sumK Try.prog (tLk32 true false) shLk32pn)) inM := withCallF_ok oo (sum_okC pr oLk32pn_ok runLk32pn shLk32pn_ok oo)
theorem kSn32_ok {puts dn : Bool} {sh : List CLeaf} {O : Orac} (oo : OOK Try.prog O inM) (h : OOK Try.prog (O.withCall f32S (sumK Try.prog (t32 puts dn) sh)) inM) : OOK Try.prog (O.withCallF f32S (kSn32 Try.prog puts dn sh)) inM := by
  refine withCallF_ok oo ⟨?_, oo.loop, oo.op, oo.tail, oo.order⟩
  intro f lo args pc hp cs ho
  refine h.call ?_
  revert ho
  unfold Orac.withCall
  simp only
  split
  · intro ho
    unfold kSn32 at ho
    split at ho
    · exact ho
    · cases ho
  · exact id
theorem seen32tn_ok {O : Orac} (oo : OOK Try.prog O inM) : OOK Try.prog (O.withCallF f32S (kSn32 Try.prog false false ouSn32tn)) inM := kSn32_ok oo (sum_ok pr oSn32tn_ok runSn32tn oo)
theorem seen32pn_ok {O : Orac} (oo : OOK Try.prog O inM) : OOK Try.prog (O.withCallF f32S (kSn32 Try.prog true false ouSn32pn)) inM := kSn32_ok oo (sum_ok pr oSn32pn_ok runSn32pn oo)
theorem seen32B_den {ν : Env Gh} (hI : ν.I = inM) (n : Nat) (l : SL) : (seen32B n l).den ν = (nG (ν.g n) == List.map SC.nums (seen32 (l.den ν) (ν.g 1).t (ν.i 7 + 1).toNat)) := by
  simp only [seen32B, SB.den, SG.den, SI.den, hI, inM, xga, SL.den]
  rfl
theorem canS32_den {ν : Env Gh} (hI : ν.I = inM) {puts : Bool} {p : PC} (h : pcDen ν ((seen32B (n32 + 6) (beg32 puts true), true) :: p)) : pcDen ν ((seen32B (n32 + 6) (begL32 false true), true) :: p) := by
  obtain ⟨h1, h2⟩ := (pcDen_cons_iff ..).1 h
  refine pcDen_cons ?_ h2
  rw [seen32B_den hI, se32_eq] at h1
  rw [seen32B_den hI, se32_lk, se32_dead (ν.i 0) (ν.i 0) (ν.i 1) (ν.i 1) false puts (b32 false true ν) (b32 puts true ν) rfl rfl rfl rfl]
  exact h1
def shSn32td : List CLeaf := ouSn32td.map canS32
theorem seen32td_ok {O : Orac} (oo : OOK Try.prog O inM) : OOK Try.prog (O.withCallF f32S (kSn32 Try.prog false true shSn32td)) inM := by
  refine kSn32_ok oo (sum_okC pr oSn32td_ok runSn32td (fun c hc ν hI hp => ⟨canS32 c, List.mem_map.2 ⟨c, hc, rfl⟩, rfl, fun _ => rfl, List.Sublist.refl _, ?_⟩) oo)
  simp only [ouSn32td, List.mem_cons, List.not_mem_nil, or_false] at hc
  subst hc
  exact canS32_den (puts := false) hI hp
def shSn32pd : List CLeaf := ouSn32pd.map canS32
theorem seen32pd_ok {O : Orac} (oo : OOK Try.prog O inM) : OOK Try.prog (O.withCallF f32S (kSn32 Try.prog true true shSn32pd)) inM := by
  refine kSn32_ok oo (sum_okC pr oSn32pd_ok runSn32pd (fun c hc ν hI hp => ⟨canS32 c, List.mem_map.2 ⟨c, hc, rfl⟩, rfl, fun _ => rfl, List.Sublist.refl _, ?_⟩) oo)
  simp only [ouSn32pd, List.mem_cons, List.not_mem_nil, or_false] at hc
  subst hc
  exact canS32_den (puts := true) hI hp
end Go.Proofs.Ytlmenjenkpnacaa
end
