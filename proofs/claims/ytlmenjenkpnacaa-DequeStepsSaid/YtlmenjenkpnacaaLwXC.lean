/- coachyardref07.Right: its state. -/
import Derived.Test.YtlmenjenkpnacaaSyH
import Derived.Test.YtlmenjenkpnacaaLwXA
import Derived.Test.YtlmenjenkpnacaaSyL
import Derived.Test.YtlmenjenkpnacaaLwXL
import Derived.Test.YtlmenjenkpnacaaLwSn70
import Derived.Test.YtlmenjenkpnacaaLwLk70
import Derived.Test.YtlmenjenkpnacaaLwSn71
import Derived.Test.YtlmenjenkpnacaaLwLk71
import Derived.Test.YtlmenjenkpnacaaLwSn72
import Derived.Test.YtlmenjenkpnacaaLwLk72
import Derived.Test.YtlmenjenkpnacaaLwSn73
import Derived.Test.YtlmenjenkpnacaaLwLk73
set_option linter.unusedVariables false
set_option linter.unusedSimpArgs false

section
namespace Go.Proofs.Ytlmenjenkpnacaa
open Go Go.Sy Go.RowKit

def fR7 : Nat := 54
def tR7 : Tmpl := ⟨[.int .i64 (.var 0), .int .i64 (.var 1)], [], []⟩
end Go.Proofs.Ytlmenjenkpnacaa
end

section
namespace Go.Proofs.Ytlmenjenkpnacaa
open Go Go.Sy Go.RowKit

def ouR7 : List CLeaf := [
  ⟨false, (.bool (.lt (.var 0) (.wrap .i64 (.sub (.wrap .i64 (.sub (.lit 65536) (.var 1))) (.lit 1))))), [((.lt (.var 0) (.lit 0)), false), ((.eq (.lit 2) (.var 1)), true)], []⟩,
  ⟨false, (.bool (.lit false)), [((.lt (.var 0) (.lit 0)), true), ((.eq (.lit 2) (.var 1)), true)], []⟩,
  ⟨false, (.bool (.lt (.var 0) (.wrap .i64 (.sub (.wrap .i64 (.sub (.lit 65536) (.var 1))) (.lit 1))))), [((.lt (.var 0) (.lit 0)), false), ((.eq (.lit 4) (.var 1)), true), ((.eq (.lit 2) (.var 1)), false)], []⟩,
  ⟨false, (.bool (.lit false)), [((.lt (.var 0) (.lit 0)), true), ((.eq (.lit 4) (.var 1)), true), ((.eq (.lit 2) (.var 1)), false)], []⟩,
  ⟨false, (.bool (.lt (.var 0) (.wrap .i64 (.sub (.wrap .i64 (.sub (.lit 65536) (.var 1))) (.lit 1))))), [((.lt (.var 0) (.lit 0)), false), ((.eq (.lit 8) (.var 1)), true), ((.eq (.lit 4) (.var 1)), false), ((.eq (.lit 2) (.var 1)), false)], []⟩,
  ⟨false, (.bool (.lit false)), [((.lt (.var 0) (.lit 0)), true), ((.eq (.lit 8) (.var 1)), true), ((.eq (.lit 4) (.var 1)), false), ((.eq (.lit 2) (.var 1)), false)], []⟩,
  ⟨false, (.bool (.lt (.var 0) (.wrap .i64 (.sub (.wrap .i64 (.sub (.lit 65536) (.var 1))) (.lit 1))))), [((.lt (.var 0) (.lit 0)), false), ((.eq (.lit 16) (.var 1)), true), ((.eq (.lit 8) (.var 1)), false), ((.eq (.lit 4) (.var 1)), false), ((.eq (.lit 2) (.var 1)), false)], []⟩,
  ⟨false, (.bool (.lit false)), [((.lt (.var 0) (.lit 0)), true), ((.eq (.lit 16) (.var 1)), true), ((.eq (.lit 8) (.var 1)), false), ((.eq (.lit 4) (.var 1)), false), ((.eq (.lit 2) (.var 1)), false)], []⟩,
  ⟨false, (.bool (.lt (.var 0) (.wrap .i64 (.sub (.wrap .i64 (.sub (.lit 65536) (.var 1))) (.lit 1))))), [((.lt (.var 0) (.lit 0)), false), ((.eq (.lit 32) (.var 1)), true), ((.eq (.lit 16) (.var 1)), false), ((.eq (.lit 8) (.var 1)), false), ((.eq (.lit 4) (.var 1)), false), ((.eq (.lit 2) (.var 1)), false)], []⟩,
  ⟨false, (.bool (.lit false)), [((.lt (.var 0) (.lit 0)), true), ((.eq (.lit 32) (.var 1)), true), ((.eq (.lit 16) (.var 1)), false), ((.eq (.lit 8) (.var 1)), false), ((.eq (.lit 4) (.var 1)), false), ((.eq (.lit 2) (.var 1)), false)], []⟩,
  ⟨false, (.bool (.lt (.var 0) (.wrap .i64 (.sub (.wrap .i64 (.sub (.lit 65536) (.var 1))) (.lit 1))))), [((.lt (.var 0) (.lit 0)), false), ((.eq (.lit 64) (.var 1)), true), ((.eq (.lit 32) (.var 1)), false), ((.eq (.lit 16) (.var 1)), false), ((.eq (.lit 8) (.var 1)), false), ((.eq (.lit 4) (.var 1)), false), ((.eq (.lit 2) (.var 1)), false)], []⟩,
  ⟨false, (.bool (.lit false)), [((.lt (.var 0) (.lit 0)), true), ((.eq (.lit 64) (.var 1)), true), ((.eq (.lit 32) (.var 1)), false), ((.eq (.lit 16) (.var 1)), false), ((.eq (.lit 8) (.var 1)), false), ((.eq (.lit 4) (.var 1)), false), ((.eq (.lit 2) (.var 1)), false)], []⟩,
  ⟨false, (.bool (.lt (.var 0) (.wrap .i64 (.sub (.wrap .i64 (.sub (.lit 65536) (.var 1))) (.lit 1))))), [((.lt (.var 0) (.lit 0)), false), ((.eq (.lit 128) (.var 1)), true), ((.eq (.lit 64) (.var 1)), false), ((.eq (.lit 32) (.var 1)), false), ((.eq (.lit 16) (.var 1)), false), ((.eq (.lit 8) (.var 1)), false), ((.eq (.lit 4) (.var 1)), false), ((.eq (.lit 2) (.var 1)), false)], []⟩,
  ⟨false, (.bool (.lit false)), [((.lt (.var 0) (.lit 0)), true), ((.eq (.lit 128) (.var 1)), true), ((.eq (.lit 64) (.var 1)), false), ((.eq (.lit 32) (.var 1)), false), ((.eq (.lit 16) (.var 1)), false), ((.eq (.lit 8) (.var 1)), false), ((.eq (.lit 4) (.var 1)), false), ((.eq (.lit 2) (.var 1)), false)], []⟩,
  ⟨false, (.bool (.lt (.var 0) (.wrap .i64 (.sub (.wrap .i64 (.sub (.lit 65536) (.var 1))) (.lit 1))))), [((.lt (.var 0) (.lit 0)), false), ((.eq (.lit 256) (.var 1)), true), ((.eq (.lit 128) (.var 1)), false), ((.eq (.lit 64) (.var 1)), false), ((.eq (.lit 32) (.var 1)), false), ((.eq (.lit 16) (.var 1)), false), ((.eq (.lit 8) (.var 1)), false), ((.eq (.lit 4) (.var 1)), false), ((.eq (.lit 2) (.var 1)), false)], []⟩,
  ⟨false, (.bool (.lit false)), [((.lt (.var 0) (.lit 0)), true), ((.eq (.lit 256) (.var 1)), true), ((.eq (.lit 128) (.var 1)), false), ((.eq (.lit 64) (.var 1)), false), ((.eq (.lit 32) (.var 1)), false), ((.eq (.lit 16) (.var 1)), false), ((.eq (.lit 8) (.var 1)), false), ((.eq (.lit 4) (.var 1)), false), ((.eq (.lit 2) (.var 1)), false)], []⟩,
  ⟨false, (.bool (.lit false)), [((.eq (.lit 256) (.var 1)), false), ((.eq (.lit 128) (.var 1)), false), ((.eq (.lit 64) (.var 1)), false), ((.eq (.lit 32) (.var 1)), false), ((.eq (.lit 16) (.var 1)), false), ((.eq (.lit 8) (.var 1)), false), ((.eq (.lit 4) (.var 1)), false), ((.eq (.lit 2) (.var 1)), false)], []⟩]
theorem runR7 : runX Try.prog noOrac fR7 tR7.args tR7.pc tR7.hp = some ouR7 := by kernel_rfl
def shR7 : List CLeaf := [⟨false, .bool (.lit true), [(rightB 1 (.var 0) (.var 1), true)], []⟩, ⟨false, .bool (.lit false), [(rightB 1 (.var 0) (.var 1), false)], []⟩]
theorem shR7_ok {G : Type} {I : In G} : ∀ c ∈ ouR7, ∀ ν : Env G, ν.I = I → pcDen ν c.pc → ∃ c' ∈ shR7, c'.bad = c.bad ∧ (∀ ρ, c'.v.den ν ρ = c.v.den ν ρ) ∧ c'.hp.Sublist c.hp ∧ pcDen ν c'.pc := by
  intro c hc ν hI hp
  have hR := rightB_den ν 1 (.var 0) (.var 1)
  have hN := rightB_no ν 1 (.var 0) (.var 1)
  simp only [SI.den] at hR hN
  have yes : Right 1 (ν.i 0) (ν.i 1) → ∃ c' ∈ shR7, c'.bad = false ∧ (∀ ρ, c'.v.den ν ρ = .bool true) ∧ c'.hp.Sublist [] ∧ pcDen ν c'.pc := fun h =>
    ⟨_, List.mem_cons_self .., rfl, fun _ => rfl, List.Sublist.refl _, pcDen_one (hR.2 h)⟩
  have no : ¬ Right 1 (ν.i 0) (ν.i 1) → ∃ c' ∈ shR7, c'.bad = false ∧ (∀ ρ, c'.v.den ν ρ = .bool false) ∧ c'.hp.Sublist [] ∧ pcDen ν c'.pc := fun h =>
    ⟨_, List.mem_of_getElem? (show shR7[1]? = some _ from rfl), rfl, fun _ => rfl, List.Sublist.refl _, pcDen_one (hN.2 h)⟩
  have lt : ∀ k : Int, ν.i 1 = k → (2 ≤ k ∧ k ≤ 256) → (SB.lt (.var 0) (.wrap .i64 (.sub (.wrap .i64 (.sub (.lit 65536) (.var 1))) (.lit 1)))).den ν = decide (ν.i 0 < 65535 - k) := fun k hk h => by
    simp only [SB.den]
    simp only [SI.den, hk]
    rw [wrapS (65536 - k) (by omega) (by omega), wrapS _ (by omega) (by omega)]
    congr 1
    simp only [eq_iff_iff]
    omega
  have step : ∀ k : Int, Pow k → ν.i 1 = k → ¬ ν.i 0 < 0 → ∃ c' ∈ shR7, c'.bad = false ∧ (∀ ρ, c'.v.den ν ρ = .bool ((SB.lt (.var 0) (.wrap .i64 (.sub (.wrap .i64 (.sub (.lit 65536) (.var 1))) (.lit 1)))).den ν)) ∧ c'.hp.Sublist [] ∧ pcDen ν c'.pc := by
    intro k hk hv h0
    have := hk.le
    by_cases hr : ν.i 0 < 65535 - k
    · rw [lt k hv this, decide_eq_true hr]
      exact yes ⟨by omega, by rw [hv]; omega, by rw [hv]; exact hk⟩
    · rw [lt k hv this, decide_eq_false hr]
      exact no fun ⟨_, r2, _⟩ => by rw [hv] at r2; omega
  simp only [ouR7, List.mem_cons, List.not_mem_nil, or_false] at hc
  rcases hc with rfl | rfl | rfl | rfl | rfl | rfl | rfl | rfl | rfl | rfl | rfl | rfl | rfl | rfl | rfl | rfl | rfl
  all_goals
    simp only [pcDen_cons_iff, SB.den, decide_eq_true_eq, decide_eq_false_iff_not, beq_iff_eq, beq_eq_false_iff_ne] at hp
    simp only [SI.den, SL.den] at hp
  · exact step 2 (by unfold Pow; omega) hp.2.1.symm hp.1
  · exact no fun ⟨r1, _, _⟩ => by omega
  · exact step 4 (by unfold Pow; omega) hp.2.1.symm hp.1
  · exact no fun ⟨r1, _, _⟩ => by omega
  · exact step 8 (by unfold Pow; omega) hp.2.1.symm hp.1
  · exact no fun ⟨r1, _, _⟩ => by omega
  · exact step 16 (by unfold Pow; omega) hp.2.1.symm hp.1
  · exact no fun ⟨r1, _, _⟩ => by omega
  · exact step 32 (by unfold Pow; omega) hp.2.1.symm hp.1
  · exact no fun ⟨r1, _, _⟩ => by omega
  · exact step 64 (by unfold Pow; omega) hp.2.1.symm hp.1
  · exact no fun ⟨r1, _, _⟩ => by omega
  · exact step 128 (by unfold Pow; omega) hp.2.1.symm hp.1
  · exact no fun ⟨r1, _, _⟩ => by omega
  · exact step 256 (by unfold Pow; omega) hp.2.1.symm hp.1
  · exact no fun ⟨r1, _, _⟩ => by omega
  · exact no fun ⟨_, _, r3⟩ => by unfold Pow at r3; omega
theorem right7_ok {O : Orac} {G : Type} {I : In G} (oo : OOK Try.prog O I) : OOK Try.prog (O.withCallF fR7 (sumK Try.prog tR7 shR7)) I := withCallF_ok oo (sum_okC pr noOrac_ok runR7 shR7_ok oo)
/-- a size that may be; a place; room for it -/
def topR (k : Int) (a c : SI) : SB := .lt a (.sub (.lit 65535) (.mul (.lit k) c))
def shS7R : List CLeaf := [⟨false, .bool (.lit true), [(powB (.var 1), true), (.lt (.var 0) (.lit 0), false), (topR 1 (.var 0) (.var 1), true)], []⟩,
  ⟨false, .bool (.lit false), [(powB (.var 1), false)], []⟩, ⟨false, .bool (.lit false), [(powB (.var 1), true), (.lt (.var 0) (.lit 0), true)], []⟩,
  ⟨false, .bool (.lit false), [(powB (.var 1), true), (.lt (.var 0) (.lit 0), false), (topR 1 (.var 0) (.var 1), false)], []⟩]
theorem shS7R_ok {G : Type} {I : In G} : ∀ c ∈ ouR7, ∀ ν : Env G, ν.I = I → pcDen ν c.pc → ∃ c' ∈ shS7R, c'.bad = c.bad ∧ (∀ ρ, c'.v.den ν ρ = c.v.den ν ρ) ∧ c'.hp.Sublist c.hp ∧ pcDen ν c'.pc := by
  intro c hc ν hI hp
  obtain ⟨c1, h1, e1, e2, e3, e4⟩ := shR7_ok c hc ν hI hp
  have t : ∀ b : SB, b.den ν = true ∨ b.den ν = false := fun b => by cases b.den ν <;> simp
  simp only [shR7, List.mem_cons, List.not_mem_nil, or_false] at h1
  rcases h1 with rfl | rfl
  · have h := (rightB_den ν 1 (.var 0) (.var 1)).1 (pcAt e4 0 rfl)
    obtain ⟨g1, g2, g3⟩ := h
    simp only [SI.den] at g1 g2 g3
    refine ⟨_, List.mem_cons_self .., e1, e2, e3, pcDen_cons ((powB_den ν (.var 1)).2 g3) (pcDen_cons (lt_of ?_) (pcDen_one (lt_of ?_)))⟩
    · simp only [SI.den, Bool.false_eq_true, iff_false]; omega
    · simp only [SI.den, iff_true]; omega
  · have h := (rightB_no ν 1 (.var 0) (.var 1)).1 (pcAt e4 0 rfl)
    rcases t (powB (.var 1)) with p | p
    · rcases t (.lt (.var 0) (.lit 0)) with q | q
      · exact ⟨_, List.mem_of_getElem? (show shS7R[2]? = some _ from rfl), e1, e2, e3, pcDen_cons p (pcDen_one q)⟩
      · rcases t (topR 1 (.var 0) (.var 1)) with r | r
        · refine (h ⟨?_, ?_, (powB_den ν (.var 1)).1 p⟩).elim
          · simp only [SB.den, decide_eq_false_iff_not] at q; simp only [SI.den] at q ⊢; omega
          · simp only [topR, SB.den, decide_eq_true_eq] at r; simp only [SI.den] at r ⊢; omega
        · exact ⟨_, List.mem_of_getElem? (show shS7R[3]? = some _ from rfl), e1, e2, e3, pcDen_cons p (pcDen_cons q (pcDen_one r))⟩
    · exact ⟨_, List.mem_of_getElem? (show shS7R[1]? = some _ from rfl), e1, e2, e3, pcDen_one p⟩
theorem rightS7_ok {O : Orac} {G : Type} {I : In G} (oo : OOK Try.prog O I) : OOK Try.prog (O.withCallF fR7 (sumK Try.prog tR7 shS7R)) I := withCallF_ok oo (sum_okC pr noOrac_ok runR7 shS7R_ok oo)
end Go.Proofs.Ytlmenjenkpnacaa
end

section
namespace Go.Proofs.Ytlmenjenkpnacaa
open Go Go.Sy Go.RowKit

def ouLk70 : List CLeaf := [
  ⟨false, (.bool (.lit true)), [((.gb 0 (.app 76 (.var 2) (.app 82 (.var 1) (.var 0) (.add (.var 7) (.lit 1)) (.lit 0) (.lit 0) (.lit 0) (.cons (.lit 0) (.cons (.lit 0) (.cons (.lit 0) (.cons (.lit 0) (.cons (.lit 1) (.cons (.lit 0) (.cons (.lit 0) (.cons (.lit 0) (.cons (.lit 0) (.cons (.lit 1) (.cons (.lit 2) (.cons (.lit 0) .nil))))))))))))) (.lit 0) (.lit 0) (.lit 0) (.lit 0) .nil) (.lit 0) (.lit 0)), true), ((.eq (.gi 17 (.app 78 (.var 2) (.var 0) (.lit 121) (.lit 10) (.var 2) (.lit 0) (.cons (.lit 3) (.cons (.lit 3) (.cons (.lit 7) (.cons (.lit 7) (.cons (.lit 8) (.cons (.lit 3) (.cons (.lit 7) (.cons (.lit 10) (.cons (.lit 8) (.cons (.lit 10) .nil))))))))))) (.lit 0) (.lit 0)) (.add (.var 7) (.lit 1))), true), ((.lt (.var 7) (.lit 0)), false), ((.lt (.lit 200) (.var 7)), false), ((.lt (.var 8) (.lit 0)), false), ((.gb 0 (.app 83 (.var 1) (.var 0) (.lit 0) (.lit 0) (.lit 0) (.lit 0) .nil) (.lit 0) (.lit 0)), true)], [(1, (.tab 10 (.var 1) [some .u64, none] (.var 8) (.var 7)))]⟩,
  ⟨false, (.bool (.lit false)), [((.lit false), true), ((.gb 0 (.app 76 (.var 2) (.app 82 (.var 1) (.var 0) (.add (.var 7) (.lit 1)) (.lit 0) (.lit 0) (.lit 0) (.cons (.lit 0) (.cons (.lit 0) (.cons (.lit 0) (.cons (.lit 0) (.cons (.lit 1) (.cons (.lit 0) (.cons (.lit 0) (.cons (.lit 0) (.cons (.lit 0) (.cons (.lit 1) (.cons (.lit 2) (.cons (.lit 0) .nil))))))))))))) (.lit 0) (.lit 0) (.lit 0) (.lit 0) .nil) (.lit 0) (.lit 0)), true), ((.eq (.gi 17 (.app 78 (.var 2) (.var 0) (.lit 121) (.lit 10) (.var 2) (.lit 0) (.cons (.lit 3) (.cons (.lit 3) (.cons (.lit 7) (.cons (.lit 7) (.cons (.lit 8) (.cons (.lit 3) (.cons (.lit 7) (.cons (.lit 10) (.cons (.lit 8) (.cons (.lit 10) .nil))))))))))) (.lit 0) (.lit 0)) (.add (.var 7) (.lit 1))), true), ((.lt (.var 7) (.lit 0)), false), ((.lt (.lit 200) (.var 7)), false), ((.lt (.var 8) (.lit 0)), false), ((.gb 0 (.app 83 (.var 1) (.var 0) (.lit 0) (.lit 0) (.lit 0) (.lit 0) .nil) (.lit 0) (.lit 0)), true)], []⟩]
def ouLk71 : List CLeaf := [
  ⟨false, (.bool (.lit true)), [((.gb 0 (.app 76 (.var 2) (.app 82 (.var 1) (.var 0) (.add (.var 7) (.lit 1)) (.lit 0) (.lit 0) (.lit 0) (.cons (.var 0) (.cons (.var 1) (.cons (.lit 1) (.cons (.var 3) (.cons (.lit 1) (.cons (.lit 0) (.cons (.lit 0) (.cons (.lit 0) (.cons (.lit 0) (.cons (.lit 0) (.cons (.lit 0) (.cons (.lit 0) .nil))))))))))))) (.lit 0) (.lit 0) (.lit 0) (.lit 0) .nil) (.lit 0) (.lit 0)), true), ((.eq (.gi 17 (.app 78 (.var 2) (.var 0) (.lit 121) (.lit 10) (.var 2) (.lit 0) (.cons (.lit 3) (.cons (.lit 3) (.cons (.lit 7) (.cons (.lit 7) (.cons (.lit 8) (.cons (.lit 3) (.cons (.lit 7) (.cons (.lit 10) (.cons (.lit 8) (.cons (.lit 10) .nil))))))))))) (.lit 0) (.lit 0)) (.add (.var 7) (.lit 1))), true), ((.lt (.var 0) (.lit 0)), false), ((.lt (.var 0) (.sub (.lit 65535) (.mul (.lit 1) (.var 1)))), true), ((.lt (.var 1) (.lit 2)), false), ((.lt (.lit 256) (.var 1)), false), ((.or (.eq (.var 1) (.lit 2)) (.or (.eq (.var 1) (.lit 4)) (.or (.eq (.var 1) (.lit 8)) (.or (.eq (.var 1) (.lit 16)) (.or (.eq (.var 1) (.lit 32)) (.or (.eq (.var 1) (.lit 64)) (.or (.eq (.var 1) (.lit 128)) (.eq (.var 1) (.lit 256))))))))), true), ((.lt (.var 3) (.lit 0)), false), ((.lt (.var 3) (.lit 18446744073709551616)), true), ((.lt (.var 7) (.lit 0)), false), ((.lt (.lit 200) (.var 7)), false), ((.lt (.var 8) (.lit 0)), false), ((.gb 0 (.app 83 (.var 1) (.var 0) (.lit 0) (.lit 0) (.lit 0) (.lit 0) .nil) (.lit 0) (.lit 0)), true)], [(1, (.tab 10 (.var 1) [some .u64, none] (.var 8) (.var 7)))]⟩,
  ⟨false, (.bool (.lit false)), [((.lit false), true), ((.gb 0 (.app 76 (.var 2) (.app 82 (.var 1) (.var 0) (.add (.var 7) (.lit 1)) (.lit 0) (.lit 0) (.lit 0) (.cons (.var 0) (.cons (.var 1) (.cons (.lit 1) (.cons (.var 3) (.cons (.lit 1) (.cons (.lit 0) (.cons (.lit 0) (.cons (.lit 0) (.cons (.lit 0) (.cons (.lit 0) (.cons (.lit 0) (.cons (.lit 0) .nil))))))))))))) (.lit 0) (.lit 0) (.lit 0) (.lit 0) .nil) (.lit 0) (.lit 0)), true), ((.eq (.gi 17 (.app 78 (.var 2) (.var 0) (.lit 121) (.lit 10) (.var 2) (.lit 0) (.cons (.lit 3) (.cons (.lit 3) (.cons (.lit 7) (.cons (.lit 7) (.cons (.lit 8) (.cons (.lit 3) (.cons (.lit 7) (.cons (.lit 10) (.cons (.lit 8) (.cons (.lit 10) .nil))))))))))) (.lit 0) (.lit 0)) (.add (.var 7) (.lit 1))), true), ((.lt (.var 0) (.lit 0)), false), ((.lt (.var 0) (.sub (.lit 65535) (.mul (.lit 1) (.var 1)))), true), ((.lt (.var 1) (.lit 2)), false), ((.lt (.lit 256) (.var 1)), false), ((.or (.eq (.var 1) (.lit 2)) (.or (.eq (.var 1) (.lit 4)) (.or (.eq (.var 1) (.lit 8)) (.or (.eq (.var 1) (.lit 16)) (.or (.eq (.var 1) (.lit 32)) (.or (.eq (.var 1) (.lit 64)) (.or (.eq (.var 1) (.lit 128)) (.eq (.var 1) (.lit 256))))))))), true), ((.lt (.var 3) (.lit 0)), false), ((.lt (.var 3) (.lit 18446744073709551616)), true), ((.lt (.var 7) (.lit 0)), false), ((.lt (.lit 200) (.var 7)), false), ((.lt (.var 8) (.lit 0)), false), ((.gb 0 (.app 83 (.var 1) (.var 0) (.lit 0) (.lit 0) (.lit 0) (.lit 0) .nil) (.lit 0) (.lit 0)), true)], []⟩]
def ouLk72 : List CLeaf := [
  ⟨false, (.bool (.lit true)), [((.gb 0 (.app 76 (.var 2) (.app 82 (.var 1) (.var 0) (.add (.var 7) (.lit 1)) (.lit 0) (.lit 0) (.lit 0) (.cons (.var 0) (.cons (.var 1) (.cons (.lit 2) (.cons (.lit 0) (.cons (.lit 1) (.cons (.lit 0) (.cons (.lit 0) (.cons (.lit 0) (.cons (.lit 0) (.cons (.lit 0) (.cons (.lit 0) (.cons (.lit 0) .nil))))))))))))) (.lit 0) (.lit 0) (.lit 0) (.lit 0) .nil) (.lit 0) (.lit 0)), true), ((.eq (.gi 17 (.app 78 (.var 2) (.var 0) (.lit 121) (.lit 10) (.var 2) (.lit 0) (.cons (.lit 3) (.cons (.lit 3) (.cons (.lit 7) (.cons (.lit 7) (.cons (.lit 8) (.cons (.lit 3) (.cons (.lit 7) (.cons (.lit 10) (.cons (.lit 8) (.cons (.lit 10) .nil))))))))))) (.lit 0) (.lit 0)) (.add (.var 7) (.lit 1))), true), ((.lt (.var 0) (.lit 0)), false), ((.lt (.var 0) (.sub (.lit 65535) (.mul (.lit 1) (.var 1)))), true), ((.lt (.var 1) (.lit 2)), false), ((.lt (.lit 256) (.var 1)), false), ((.or (.eq (.var 1) (.lit 2)) (.or (.eq (.var 1) (.lit 4)) (.or (.eq (.var 1) (.lit 8)) (.or (.eq (.var 1) (.lit 16)) (.or (.eq (.var 1) (.lit 32)) (.or (.eq (.var 1) (.lit 64)) (.or (.eq (.var 1) (.lit 128)) (.eq (.var 1) (.lit 256))))))))), true), ((.lt (.var 7) (.lit 0)), false), ((.lt (.lit 200) (.var 7)), false), ((.lt (.var 8) (.lit 0)), false), ((.gb 0 (.app 83 (.var 1) (.var 0) (.lit 0) (.lit 0) (.lit 0) (.lit 0) .nil) (.lit 0) (.lit 0)), true)], [(1, (.tab 10 (.var 1) [some .u64, none] (.var 8) (.var 7)))]⟩,
  ⟨false, (.bool (.lit false)), [((.lit false), true), ((.gb 0 (.app 76 (.var 2) (.app 82 (.var 1) (.var 0) (.add (.var 7) (.lit 1)) (.lit 0) (.lit 0) (.lit 0) (.cons (.var 0) (.cons (.var 1) (.cons (.lit 2) (.cons (.lit 0) (.cons (.lit 1) (.cons (.lit 0) (.cons (.lit 0) (.cons (.lit 0) (.cons (.lit 0) (.cons (.lit 0) (.cons (.lit 0) (.cons (.lit 0) .nil))))))))))))) (.lit 0) (.lit 0) (.lit 0) (.lit 0) .nil) (.lit 0) (.lit 0)), true), ((.eq (.gi 17 (.app 78 (.var 2) (.var 0) (.lit 121) (.lit 10) (.var 2) (.lit 0) (.cons (.lit 3) (.cons (.lit 3) (.cons (.lit 7) (.cons (.lit 7) (.cons (.lit 8) (.cons (.lit 3) (.cons (.lit 7) (.cons (.lit 10) (.cons (.lit 8) (.cons (.lit 10) .nil))))))))))) (.lit 0) (.lit 0)) (.add (.var 7) (.lit 1))), true), ((.lt (.var 0) (.lit 0)), false), ((.lt (.var 0) (.sub (.lit 65535) (.mul (.lit 1) (.var 1)))), true), ((.lt (.var 1) (.lit 2)), false), ((.lt (.lit 256) (.var 1)), false), ((.or (.eq (.var 1) (.lit 2)) (.or (.eq (.var 1) (.lit 4)) (.or (.eq (.var 1) (.lit 8)) (.or (.eq (.var 1) (.lit 16)) (.or (.eq (.var 1) (.lit 32)) (.or (.eq (.var 1) (.lit 64)) (.or (.eq (.var 1) (.lit 128)) (.eq (.var 1) (.lit 256))))))))), true), ((.lt (.var 7) (.lit 0)), false), ((.lt (.lit 200) (.var 7)), false), ((.lt (.var 8) (.lit 0)), false), ((.gb 0 (.app 83 (.var 1) (.var 0) (.lit 0) (.lit 0) (.lit 0) (.lit 0) .nil) (.lit 0) (.lit 0)), true)], []⟩]
def ouLk73 : List CLeaf := [
  ⟨false, (.bool (.lit true)), [((.gb 0 (.app 76 (.var 2) (.app 82 (.var 1) (.var 0) (.add (.var 7) (.lit 1)) (.lit 0) (.lit 0) (.lit 0) (.cons (.var 0) (.cons (.var 1) (.cons (.lit 3) (.cons (.lit 0) (.cons (.lit 1) (.cons (.lit 0) (.cons (.lit 0) (.cons (.lit 0) (.cons (.lit 0) (.cons (.lit 0) (.cons (.lit 0) (.cons (.lit 0) .nil))))))))))))) (.lit 0) (.lit 0) (.lit 0) (.lit 0) .nil) (.lit 0) (.lit 0)), true), ((.eq (.gi 17 (.app 78 (.var 2) (.var 0) (.lit 121) (.lit 10) (.var 2) (.lit 0) (.cons (.lit 3) (.cons (.lit 3) (.cons (.lit 7) (.cons (.lit 7) (.cons (.lit 8) (.cons (.lit 3) (.cons (.lit 7) (.cons (.lit 10) (.cons (.lit 8) (.cons (.lit 10) .nil))))))))))) (.lit 0) (.lit 0)) (.add (.var 7) (.lit 1))), true), ((.lt (.var 0) (.lit 0)), false), ((.lt (.var 0) (.sub (.lit 65535) (.mul (.lit 1) (.var 1)))), true), ((.lt (.var 1) (.lit 2)), false), ((.lt (.lit 256) (.var 1)), false), ((.or (.eq (.var 1) (.lit 2)) (.or (.eq (.var 1) (.lit 4)) (.or (.eq (.var 1) (.lit 8)) (.or (.eq (.var 1) (.lit 16)) (.or (.eq (.var 1) (.lit 32)) (.or (.eq (.var 1) (.lit 64)) (.or (.eq (.var 1) (.lit 128)) (.eq (.var 1) (.lit 256))))))))), true), ((.lt (.var 7) (.lit 0)), false), ((.lt (.lit 200) (.var 7)), false), ((.lt (.var 8) (.lit 0)), false), ((.gb 0 (.app 83 (.var 1) (.var 0) (.lit 0) (.lit 0) (.lit 0) (.lit 0) .nil) (.lit 0) (.lit 0)), true)], [(1, (.tab 10 (.var 1) [some .u64, none] (.var 8) (.var 7)))]⟩,
  ⟨false, (.bool (.lit false)), [((.lit false), true), ((.gb 0 (.app 76 (.var 2) (.app 82 (.var 1) (.var 0) (.add (.var 7) (.lit 1)) (.lit 0) (.lit 0) (.lit 0) (.cons (.var 0) (.cons (.var 1) (.cons (.lit 3) (.cons (.lit 0) (.cons (.lit 1) (.cons (.lit 0) (.cons (.lit 0) (.cons (.lit 0) (.cons (.lit 0) (.cons (.lit 0) (.cons (.lit 0) (.cons (.lit 0) .nil))))))))))))) (.lit 0) (.lit 0) (.lit 0) (.lit 0) .nil) (.lit 0) (.lit 0)), true), ((.eq (.gi 17 (.app 78 (.var 2) (.var 0) (.lit 121) (.lit 10) (.var 2) (.lit 0) (.cons (.lit 3) (.cons (.lit 3) (.cons (.lit 7) (.cons (.lit 7) (.cons (.lit 8) (.cons (.lit 3) (.cons (.lit 7) (.cons (.lit 10) (.cons (.lit 8) (.cons (.lit 10) .nil))))))))))) (.lit 0) (.lit 0)) (.add (.var 7) (.lit 1))), true), ((.lt (.var 0) (.lit 0)), false), ((.lt (.var 0) (.sub (.lit 65535) (.mul (.lit 1) (.var 1)))), true), ((.lt (.var 1) (.lit 2)), false), ((.lt (.lit 256) (.var 1)), false), ((.or (.eq (.var 1) (.lit 2)) (.or (.eq (.var 1) (.lit 4)) (.or (.eq (.var 1) (.lit 8)) (.or (.eq (.var 1) (.lit 16)) (.or (.eq (.var 1) (.lit 32)) (.or (.eq (.var 1) (.lit 64)) (.or (.eq (.var 1) (.lit 128)) (.eq (.var 1) (.lit 256))))))))), true), ((.lt (.var 7) (.lit 0)), false), ((.lt (.lit 200) (.var 7)), false), ((.lt (.var 8) (.lit 0)), false), ((.gb 0 (.app 83 (.var 1) (.var 0) (.lit 0) (.lit 0) (.lit 0) (.lit 0) .nil) (.lit 0) (.lit 0)), true)], []⟩]
def oLk70 (P : Program) : Orac := ((oL7 P).withLoopF fLk 4 nLk (eLk7 P 0).fr (eLk7 P 0).hp (mkM nLk (gLk (eLk7 P 0).fr) (bdLk7 P 0)))
theorem runLk70 : runX Try.prog (oLk70 Try.prog) fLk (tLk7 0).args (tLk7 0).pc (tLk7 0).hp = some ouLk70 := by kernel_rfl
theorem oLk70_ok : OOK Try.prog (oLk70 Try.prog) inM := withLoopF_ok oL7_ok70 (loopLk70 oL7_ok70)
def shLk70 : List CLeaf := ouLk70.take 1
theorem shLk70_ok : ∀ c ∈ ouLk70, ∀ ν : Env Gh, ν.I = inM → pcDen ν c.pc → ∃ c' ∈ shLk70, c'.bad = c.bad ∧ (∀ ρ, c'.v.den ν ρ = c.v.den ν ρ) ∧ c'.hp.Sublist c.hp ∧ pcDen ν c'.pc := by
  intro c hc ν hI hp
  simp only [ouLk70, List.mem_cons, List.not_mem_nil, or_false] at hc
  rcases hc with rfl | rfl
  · exact ⟨_, List.mem_of_getElem? (show shLk70[0]? = some _ from rfl), rfl, fun _ => rfl, List.Sublist.refl _, hp⟩
  · have := pcAt hp 0 rfl
    simp [SB.den] at this
theorem like70_ok {O : Orac} (oo : OOK Try.prog O inM) : OOK Try.prog (O.withCallF fLk (sumK Try.prog (tLk7 0) shLk70)) inM := withCallF_ok oo (sum_okC pr oLk70_ok runLk70 shLk70_ok oo)
def oLk71 (P : Program) : Orac := ((oL7 P).withLoopF fLk 4 nLk (eLk7 P 1).fr (eLk7 P 1).hp (mkM nLk (gLk (eLk7 P 1).fr) (bdLk7 P 1)))
theorem runLk71 : runX Try.prog (oLk71 Try.prog) fLk (tLk7 1).args (tLk7 1).pc (tLk7 1).hp = some ouLk71 := by kernel_rfl
theorem oLk71_ok : OOK Try.prog (oLk71 Try.prog) inM := withLoopF_ok oL7_ok71 (loopLk71 oL7_ok71)
def shLk71 : List CLeaf := ouLk71.take 1
theorem shLk71_ok : ∀ c ∈ ouLk71, ∀ ν : Env Gh, ν.I = inM → pcDen ν c.pc → ∃ c' ∈ shLk71, c'.bad = c.bad ∧ (∀ ρ, c'.v.den ν ρ = c.v.den ν ρ) ∧ c'.hp.Sublist c.hp ∧ pcDen ν c'.pc := by
  intro c hc ν hI hp
  simp only [ouLk71, List.mem_cons, List.not_mem_nil, or_false] at hc
  rcases hc with rfl | rfl
  · exact ⟨_, List.mem_of_getElem? (show shLk71[0]? = some _ from rfl), rfl, fun _ => rfl, List.Sublist.refl _, hp⟩
  · have := pcAt hp 0 rfl
    simp [SB.den] at this
theorem like71_ok {O : Orac} (oo : OOK Try.prog O inM) : OOK Try.prog (O.withCallF fLk (sumK Try.prog (tLk7 1) shLk71)) inM := withCallF_ok oo (sum_okC pr oLk71_ok runLk71 shLk71_ok oo)
def oLk72 (P : Program) : Orac := ((oL7 P).withLoopF fLk 4 nLk (eLk7 P 2).fr (eLk7 P 2).hp (mkM nLk (gLk (eLk7 P 2).fr) (bdLk7 P 2)))
theorem runLk72 : runX Try.prog (oLk72 Try.prog) fLk (tLk7 2).args (tLk7 2).pc (tLk7 2).hp = some ouLk72 := by kernel_rfl
theorem oLk72_ok : OOK Try.prog (oLk72 Try.prog) inM := withLoopF_ok oL7_ok72 (loopLk72 oL7_ok72)
def shLk72 : List CLeaf := ouLk72.take 1
theorem shLk72_ok : ∀ c ∈ ouLk72, ∀ ν : Env Gh, ν.I = inM → pcDen ν c.pc → ∃ c' ∈ shLk72, c'.bad = c.bad ∧ (∀ ρ, c'.v.den ν ρ = c.v.den ν ρ) ∧ c'.hp.Sublist c.hp ∧ pcDen ν c'.pc := by
  intro c hc ν hI hp
  simp only [ouLk72, List.mem_cons, List.not_mem_nil, or_false] at hc
  rcases hc with rfl | rfl
  · exact ⟨_, List.mem_of_getElem? (show shLk72[0]? = some _ from rfl), rfl, fun _ => rfl, List.Sublist.refl _, hp⟩
  · have := pcAt hp 0 rfl
    simp [SB.den] at this
theorem like72_ok {O : Orac} (oo : OOK Try.prog O inM) : OOK Try.prog (O.withCallF fLk (sumK Try.prog (tLk7 2) shLk72)) inM := withCallF_ok oo (sum_okC pr oLk72_ok runLk72 shLk72_ok oo)
def oLk73 (P : Program) : Orac := ((oL7 P).withLoopF fLk 4 nLk (eLk7 P 3).fr (eLk7 P 3).hp (mkM nLk (gLk (eLk7 P 3).fr) (bdLk7 P 3)))
theorem runLk73 : runX Try.prog (oLk73 Try.prog) fLk (tLk7 3).args (tLk7 3).pc (tLk7 3).hp = some ouLk73 := by kernel_rfl
theorem oLk73_ok : OOK Try.prog (oLk73 Try.prog) inM := withLoopF_ok oL7_ok73 (loopLk73 oL7_ok73)
def shLk73 : List CLeaf := ouLk73.take 1
theorem shLk73_ok : ∀ c ∈ ouLk73, ∀ ν : Env Gh, ν.I = inM → pcDen ν c.pc → ∃ c' ∈ shLk73, c'.bad = c.bad ∧ (∀ ρ, c'.v.den ν ρ = c.v.den ν ρ) ∧ c'.hp.Sublist c.hp ∧ pcDen ν c'.pc := by
  intro c hc ν hI hp
  simp only [ouLk73, List.mem_cons, List.not_mem_nil, or_false] at hc
  rcases hc with rfl | rfl
  · exact ⟨_, List.mem_of_getElem? (show shLk73[0]? = some _ from rfl), rfl, fun _ => rfl, List.Sublist.refl _, hp⟩
  · have := pcAt hp 0 rfl
    simp [SB.den] at this
theorem like73_ok {O : Orac} (oo : OOK Try.prog O inM) : OOK Try.prog (O.withCallF fLk (sumK Try.prog (tLk7 3) shLk73)) inM := withCallF_ok oo (sum_okC pr oLk73_ok runLk73 shLk73_ok oo)
/-! what is seen: asked where the frame's kind is so, and whether it has ended -/
def flags7 (kd : Nat) (args : List SV) (hp : Heap) : Bool := match args with
  | .ptr b _ :: _ => match hget b hp with
    | some (.cells [_, _, .int _ k, _, _, _, _, _, _, .bool (.lit d), _, _, _] _ _) => bBeq d (dn7 kd) && (d || k.beq (kd7 kd))
    | _ => false
  | _ => false
def kSn7 (P : Program) (kd : Nat) (sh : List CLeaf) (lo : Nat) (args : List SV) (pc : PC) (hp : Heap) : Option (List CLeaf) := if flags7 kd args hp then sumK P (t7 kd) sh lo args pc hp else none
theorem kSn7_ok {kd : Nat} {sh : List CLeaf} {O : Orac} (oo : OOK Try.prog O inM) (h : OOK Try.prog (O.withCall f7S (sumK Try.prog (t7 kd) sh)) inM) : OOK Try.prog (O.withCallF f7S (kSn7 Try.prog kd sh)) inM := by
  refine withCallF_ok oo ⟨?_, oo.loop, oo.op, oo.tail, oo.order⟩
  intro f lo args pc hp cs ho
  refine h.call ?_
  revert ho
  unfold Orac.withCall
  simp only
  split
  · intro ho
    unfold kSn7 at ho
    split at ho
    · exact ho
    · cases ho
  · exact id
theorem seen70_ok {O : Orac} (oo : OOK Try.prog O inM) : OOK Try.prog (O.withCallF f7S (kSn7 Try.prog 0 ouSn70)) inM := kSn7_ok oo (sum_ok pr oSn70_ok runSn70 oo)
theorem seen71_ok {O : Orac} (oo : OOK Try.prog O inM) : OOK Try.prog (O.withCallF f7S (kSn7 Try.prog 1 ouSn71)) inM := kSn7_ok oo (sum_ok pr oSn71_ok runSn71 oo)
theorem seen72_ok {O : Orac} (oo : OOK Try.prog O inM) : OOK Try.prog (O.withCallF f7S (kSn7 Try.prog 2 ouSn72)) inM := kSn7_ok oo (sum_ok pr oSn72_ok runSn72 oo)
theorem seen73_ok {O : Orac} (oo : OOK Try.prog O inM) : OOK Try.prog (O.withCallF f7S (kSn7 Try.prog 3 ouSn73)) inM := kSn7_ok oo (sum_ok pr oSn73_ok runSn73 oo)
end Go.Proofs.Ytlmenjenkpnacaa
end
