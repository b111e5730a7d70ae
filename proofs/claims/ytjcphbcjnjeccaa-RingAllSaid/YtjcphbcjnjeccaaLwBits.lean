/- Plain laws of words: wrapping, and a power of two's mask. -/
import Derived.Test.YtjcphbcjnjeccaaSyG
import Derived.Test.YtjcphbcjnjeccaaSy38
set_option linter.unusedVariables false
set_option linter.unusedSimpArgs false
namespace Go.Proofs.Ytjcphbcjnjeccaa
open Go Go.Sy Go.RowKit

theorem wrapS (x : Int) (h1 : -9223372036854775808 ≤ x) (h2 : x ≤ 9223372036854775807) : IntKind.i64.wrap x = x := by
  rw [IntKind.wrap_i64]; omega
theorem wrapU (x : Int) : IntKind.u64.wrap x = x % 18446744073709551616 := by
  rw [IntKind.wrap_u64]
theorem list_ext {xs ys : List Int} (hl : xs.length = ys.length) (h : ∀ j : Nat, (j : Int) < xs.length → xs.getD j 0 = ys.getD j 0) : xs = ys := by
  refine List.ext_getElem hl fun j h1 h2 => ?_
  have := h j (by omega)
  simpa [List.getD_eq_getElem?_getD, h1, h2] using this
theorem bits_all : (List.range 257).all (fun n => decide (n < 2) || (decide (bitsDen 0 .i64 n (IntKind.i64.wrap (n - 1)) = 0) == (n == 2 || n == 4 || n == 8 || n == 16 || n == 32 || n == 64 || n == 128 || n == 256))) = true := by decide +kernel
/-- The sizes that may be. -/
def Pow (c : Int) : Prop := c = 2 ∨ c = 4 ∨ c = 8 ∨ c = 16 ∨ c = 32 ∨ c = 64 ∨ c = 128 ∨ c = 256
theorem bits_iff (c : Int) (h1 : 2 ≤ c) (h2 : c ≤ 256) : bitsDen 0 .i64 c (IntKind.i64.wrap (c - 1)) = 0 ↔ Pow c := by
  obtain ⟨n, rfl⟩ : ∃ n : Nat, c = n := ⟨c.toNat, by omega⟩
  have h := List.all_eq_true.1 bits_all n (List.mem_range.2 (by omega))
  simp only [Bool.or_eq_true, decide_eq_true_eq, beq_iff_eq] at h
  rcases h with h | h
  · omega
  · unfold Pow
    constructor
    · intro h3
      have h4 : decide (bitsDen 0 .i64 (n : Int) (IntKind.i64.wrap ((n : Int) - 1)) = 0) = true := decide_eq_true h3
      rw [h4] at h
      have := h.symm
      simp only [Bool.or_eq_true, beq_iff_eq] at this
      omega
    · intro h3
      have : (n == 2 || n == 4 || n == 8 || n == 16 || n == 32 || n == 64 || n == 128 || n == 256) = true := by
        simp only [Bool.or_eq_true, beq_iff_eq]; omega
      rw [this] at h
      exact of_decide_eq_true h
/-- A mask of a power of two is a rest. -/
theorem mask_mod (t c : Int) (h : Pow c) : bitsDen 0 .u64 t (IntKind.u64.wrap (IntKind.i64.wrap (c - 1))) = t % 18446744073709551616 % c := by
  have key : ∀ k : Nat, k ≤ 8 → bitsDen 0 .u64 t (((2 ^ k - 1 : Nat)) : Int) = t % 18446744073709551616 % ((2 ^ k : Nat) : Int) := by
    intro k hk
    have e1 : (BitVec.ofInt 64 t).toNat = (t % 18446744073709551616).toNat := by
      rw [BitVec.toNat_ofInt]; rfl
    have hlt : 2 ^ k ≤ 256 := by
      calc 2 ^ k ≤ 2 ^ 8 := Nat.pow_le_pow_right (by omega) hk
        _ = 256 := rfl
    have hpos : 0 < 2 ^ k := Nat.pow_pos (by omega)
    have e2 : (BitVec.ofInt 64 ((2 ^ k - 1 : Nat) : Int)).toNat = 2 ^ k - 1 := by
      rw [BitVec.toNat_ofInt]; omega
    show IntKind.u64.wrap ((BitVec.ofInt 64 t &&& BitVec.ofInt 64 ((2 ^ k - 1 : Nat) : Int)).toNat : Int) = _
    rw [wrapU, BitVec.toNat_and, e1, e2, Nat.and_two_pow_sub_one_eq_mod]
    have h1 : 0 ≤ t % 18446744073709551616 := Int.emod_nonneg _ (by omega)
    generalize t % 18446744073709551616 = u at h1 ⊢
    obtain ⟨n, rfl⟩ : ∃ n : Nat, u = n := ⟨u.toNat, by omega⟩
    simp only [Int.toNat_natCast]
    have h2 : n % 2 ^ k < 2 ^ k := Nat.mod_lt _ hpos
    have h3 : ((n : Int) % ((2 ^ k : Nat) : Int)) = ((n % 2 ^ k : Nat) : Int) := rfl
    rw [h3]
    omega
  have w1 : IntKind.u64.wrap (IntKind.i64.wrap (c - 1)) = c - 1 := by
    rw [wrapU]
    unfold Pow at h
    rw [wrapS _ (by omega) (by omega)]
    omega
  rw [w1]
  unfold Pow at h
  rcases h with rfl | rfl | rfl | rfl | rfl | rfl | rfl | rfl
  · exact key 1 (by omega)
  · exact key 2 (by omega)
  · exact key 3 (by omega)
  · exact key 4 (by omega)
  · exact key 5 (by omega)
  · exact key 6 (by omega)
  · exact key 7 (by omega)
  · exact key 8 (by omega)
theorem slotsG_length (l : List Int) (a b c d m o s : Int) : (slotsG l a b c d m o s).length = d.toNat := by simp [slotsG]
theorem slotsG_step (l : List Int) (a b c m o s : Int) (d : Nat) : slotsG l a b c (d + 1 : Nat) m o s = slotsG l a b c d m o s ++ [l.getD (a + o + s * ((c + d) % m % b)).toNat 0] := by
  simp [slotsG, List.range_succ]
theorem slotsG_get (l : List Int) (a b c m o s : Int) (d j : Nat) (h : j < d) : (slotsG l a b c d m o s)[j]? = some (l.getD (a + o + s * ((c + j) % m % b)).toNat 0) := by
  simp [slotsG, h]
/-! what may be, as a condition -/
def powB (c : SI) : SB := .or (.eq c (.lit 2)) (.or (.eq c (.lit 4)) (.or (.eq c (.lit 8)) (.or (.eq c (.lit 16)) (.or (.eq c (.lit 32)) (.or (.eq c (.lit 64)) (.or (.eq c (.lit 128)) (.eq c (.lit 256))))))))
def rightB (k : Int) (at' size : SI) : SB := .and (.not (.lt at' (.lit 0))) (.and (.lt at' (.sub (.lit 65535) (.mul (.lit k) size))) (powB size))
def Right (k at' size : Int) : Prop := 0 ≤ at' ∧ at' < 65535 - k * size ∧ Pow size
theorem powB_den {G : Type} (ν : Env G) (c : SI) : (powB c).den ν = true ↔ Pow (c.den ν) := by
  simp only [powB, SB.den, SI.den, Pow, Bool.or_eq_true, beq_iff_eq]
theorem rightB_den {G : Type} (ν : Env G) (k : Int) (a c : SI) : (rightB k a c).den ν = true ↔ Right k (a.den ν) (c.den ν) := by
  simp only [rightB, SB.den, Right, Bool.and_eq_true, powB_den, Bool.not_eq_true', decide_eq_false_iff_not, decide_eq_true_eq]
  simp only [SI.den]
  constructor
  · rintro ⟨h1, h2, h3⟩; exact ⟨by omega, by omega, h3⟩
  · rintro ⟨h1, h2, h3⟩; exact ⟨by omega, by omega, h3⟩
theorem rightB_no {G : Type} (ν : Env G) (k : Int) (a c : SI) : (rightB k a c).den ν = false ↔ ¬ Right k (a.den ν) (c.den ν) := by
  rw [← rightB_den]; cases (rightB k a c).den ν <;> simp
theorem Pow.le {c : Int} (h : Pow c) : 2 ≤ c ∧ c ≤ 256 := by unfold Pow at h; omega
end Go.Proofs.Ytjcphbcjnjeccaa
