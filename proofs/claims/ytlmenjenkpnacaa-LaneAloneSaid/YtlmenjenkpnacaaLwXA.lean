/- What the executor asks of the program: the order of evaluation is drawn, and no function is named as the runtime's count of goroutines. -/
import Derived.Test.YtlmenjenkpnacaaSyC
import Derived.KernelRfl
import Derived.Test.YtlmenjenkpnacaaProg
import Derived.Test.YtlmenjenkpnacaaSyD
import Derived.Test.YtlmenjenkpnacaaSyA
import Derived.Test.YtlmenjenkpnacaaSyH
import Derived.Test.YtlmenjenkpnacaaSyK
set_option linter.unusedVariables false
set_option linter.unusedSimpArgs false

section
namespace Go.Proofs.Ytlmenjenkpnacaa
open Go Go.Sy

theorem mixed : Try.prog.follows .mixedOrders = true := by kernel_rfl
theorem ng : ∀ (f : Nat) (fn : Func), Try.prog.funcs[f]? = some fn → (fn.name == "runtime.NumGoroutine") = false := by
  have h : Try.prog.funcs.all (fun fn => !(fn.name == "runtime.NumGoroutine")) = true := by kernel_rfl
  intro f fn hf
  have := Array.all_eq_true'.1 h fn (Array.mem_of_getElem? hf)
  simpa using this
theorem pr : PR Try.prog := ⟨mixed, ng⟩

theorem own : ownKnob Try.prog.godebug = none := by kernel_rfl

/-- Numbers, lists; no ghost. -/
def envOf (i : Nat → Int) (b : Nat → Bool) (l : Nat → List Int) (e : Nat → Addr) : Env Unit := ⟨In.none, fun _ => (), i, b, fun _ => .bool false, l, e, fun _ => rfl⟩
def noAddr : Nat → Addr := fun _ => ⟨0, 0, none⟩
end Go.Proofs.Ytlmenjenkpnacaa
end

section
namespace Go.Proofs.Ytlmenjenkpnacaa
open Go Go.Sy

def sgnB : List Char := List.map Char.ofNat [53,99,100,48,56,49,100,53,55,98,54,52,98,100,99,53,53,99,101,49,53,100,55,51,49,57,57,55,51,98,99,97,49,51,54,53,53,98,57,49,48,55,51,53,55,55,56,49,101,101,52,54,55,48,50,102,101,102,99,53,101,55,50,53]
def sgnR : List Char := List.map Char.ofNat [97,116,32,99,111,97,99,104,121,97,114,100,47,99,111,97,99,104,121,97,114,100,108,97,119,48,54,46,65,114,101,110,97,73,110,105,116,115,32,99,111,97,99,104,121,97,114,100,47,99,111,97,99,104,121,97,114,100,108,97,119,48,54,46,65,114,101,110,97,79,110,99,101,32,99,111,97,99,104,121,97,114,100,47,99,111,97,99,104,121,97,114,100,108,97,119,48,54,46,65,114,101,110,97,83,116,101,112,115,32,99,111,97,99,104,121,97,114,100,47,99,111,97,99,104,121,97,114,100,108,97,119,51,50,46,76,97,110,101,65,108,108,32,99,111,97,99,104,121,97,114,100,47,99,111,97,99,104,121,97,114,100,108,97,119,51,50,46,76,97,110,101,65,108,111,110,101,32,99,111,97,99,104,121,97,114,100,47,99,111,97,99,104,121,97,114,100,108,97,119,51,50,46,76,97,110,101,83,116,101,112,115,32,99,111,97,99,104,121,97,114,100,47,99,111,97,99,104,121,97,114,100,108,97,119,51,50,46,76,97,110,101,80,108,97,121,115,32,99,111,97,99,104,121,97,114,100,47,99,111,97,99,104,121,97,114,100,108,97,119,48,55,46,68,101,113,117,101,83,116,101,112,115,32,99,111,97,99,104,121,97,114,100,47,99,111,97,99,104,121,97,114,100,108,97,119,48,55,46,68,101,113,117,101,83,116,101,97,108,115,32,99,111,97,99,104,121,97,114,100,47,99,111,97,99,104,121,97,114,100,108,97,119,48,55,46,68,101,113,117,101,80,108,97,121,115,32,99,111,97,99,104,121,97,114,100,47,99,111,97,99,104,121,97,114,100,108,97,119,48,56,46,82,105,110,103,65,108,111,110,101]
theorem sign : Try.prog.initOrder = String.ofList (signOf sgnB sgnR) := by kernel_rfl
theorem words : behindMainWord (wordsSigns Try.prog.initOrder.toList) = sgnC :: wordsSigns sgnR := words_of sign (by decide +kernel) (by decide +kernel)
theorem facts : ProgFacts Try.prog where
  laid := by kernel_rfl
  rowed := by kernel_rfl
  stops := by kernel_rfl
  knobs := by kernel_rfl
  keys := by kernel_rfl
  heard := by kernel_rfl
  enter := mayEnter_of words (by kernel_rfl) (by kernel_rfl) (by kernel_rfl)
  final := liftsFinal_of words
  make := make_of words
end Go.Proofs.Ytlmenjenkpnacaa
end

section
namespace Go.Proofs.Ytlmenjenkpnacaa
open Go Go.Sy Go.RowKit

theorem wrapS (x : Int) (h1 : -9223372036854775808 ≤ x) (h2 : x ≤ 9223372036854775807) : IntKind.i64.wrap x = x := by
  rw [IntKind.wrap_i64]; omega
theorem wrapU (x : Int) : IntKind.u64.wrap x = x % 18446744073709551616 := by
  rw [IntKind.wrap_u64]
theorem list_ext {xs ys : List Int} (hl : xs.length = ys.length) (h : ∀ j : Nat, (j : Int) < xs.length → xs.getD j 0 = ys.getD j 0) : xs = ys := by
  refine List.ext_getElem hl fun j h1 h2 => ?_
  have := h j (by omega)
  simpa [List.getD_eq_getElem?_getD, h1, h2] using this
theorem bits_all : (List.range 257).all (fun n => decide (n < 2) || (decide (bitsDen 0 .i64 n (IntKind.i64.wrap (n - 1)) = 0) == (n == 2 || n == 4 || n == 8 || n == 16 || n == 32 || n == 64 || n == 128 || n == 256))) = true := by decide +kernel
/-- The sizes that may be. -/
def Pow (c : Int) : Prop := c = 2 ∨ c = 4 ∨ c = 8 ∨ c = 16 ∨ c = 32 ∨ c = 64 ∨ c = 128 ∨ c = 256
theorem bits_iff (c : Int) (h1 : 2 ≤ c) (h2 : c ≤ 256) : bitsDen 0 .i64 c (IntKind.i64.wrap (c - 1)) = 0 ↔ Pow c := by
  obtain ⟨n, rfl⟩ : ∃ n : Nat, c = n := ⟨c.toNat, by omega⟩
  have h := List.all_eq_true.1 bits_all n (List.mem_range.2 (by omega))
  simp only [Bool.or_eq_true, decide_eq_true_eq, beq_iff_eq] at h
  rcases h with h | h
  · omega
  · unfold Pow
    constructor
    · intro h3
      have h4 : decide (bitsDen 0 .i64 (n : Int) (IntKind.i64.wrap ((n : Int) - 1)) = 0) = true := decide_eq_true h3
      rw [h4] at h
      have := h.symm
      simp only [Bool.or_eq_true, beq_iff_eq] at this
      omega
    · intro h3
      have : (n == 2 || n == 4 || n == 8 || n == 16 || n == 32 || n == 64 || n == 128 || n == 256) = true := by
        simp only [Bool.or_eq_true, beq_iff_eq]; omega
      rw [this] at h
      exact of_decide_eq_true h
/-- A mask of a power of two is a rest. -/
theorem mask_mod (t c : Int) (h : Pow c) : bitsDen 0 .u64 t (IntKind.u64.wrap (IntKind.i64.wrap (c - 1))) = t % 18446744073709551616 % c := by
  have key : ∀ k : Nat, k ≤ 8 → bitsDen 0 .u64 t (((2 ^ k - 1 : Nat)) : Int) = t % 18446744073709551616 % ((2 ^ k : Nat) : Int) := by
    intro k hk
    have e1 : (BitVec.ofInt 64 t).toNat = (t % 18446744073709551616).toNat := by
      rw [BitVec.toNat_ofInt]; rfl
    have hlt : 2 ^ k ≤ 256 := by
      calc 2 ^ k ≤ 2 ^ 8 := Nat.pow_le_pow_right (by omega) hk
        _ = 256 := rfl
    have hpos : 0 < 2 ^ k := Nat.pow_pos (by omega)
    have e2 : (BitVec.ofInt 64 ((2 ^ k - 1 : Nat) : Int)).toNat = 2 ^ k - 1 := by
      rw [BitVec.toNat_ofInt]; omega
    show IntKind.u64.wrap ((BitVec.ofInt 64 t &&& BitVec.ofInt 64 ((2 ^ k - 1 : Nat) : Int)).toNat : Int) = _
    rw [wrapU, BitVec.toNat_and, e1, e2, Nat.and_two_pow_sub_one_eq_mod]
    have h1 : 0 ≤ t % 18446744073709551616 := Int.emod_nonneg _ (by omega)
    generalize t % 18446744073709551616 = u at h1 ⊢
    obtain ⟨n, rfl⟩ : ∃ n : Nat, u = n := ⟨u.toNat, by omega⟩
    simp only [Int.toNat_natCast]
    have h2 : n % 2 ^ k < 2 ^ k := Nat.mod_lt _ hpos
    have h3 : ((n : Int) % ((2 ^ k : Nat) : Int)) = ((n % 2 ^ k : Nat) : Int) := rfl
    rw [h3]
    omega
  have w1 : IntKind.u64.wrap (IntKind.i64.wrap (c - 1)) = c - 1 := by
    rw [wrapU]
    unfold Pow at h
    rw [wrapS _ (by omega) (by omega)]
    omega
  rw [w1]
  unfold Pow at h
  rcases h with rfl | rfl | rfl | rfl | rfl | rfl | rfl | rfl
  · exact key 1 (by omega)
  · exact key 2 (by omega)
  · exact key 3 (by omega)
  · exact key 4 (by omega)
  · exact key 5 (by omega)
  · exact key 6 (by omega)
  · exact key 7 (by omega)
  · exact key 8 (by omega)
theorem slotsG_length (l : List Int) (a b c d m o s : Int) : (slotsG l a b c d m o s).length = d.toNat := by simp [slotsG]
theorem slotsG_step (l : List Int) (a b c m o s : Int) (d : Nat) : slotsG l a b c (d + 1 : Nat) m o s = slotsG l a b c d m o s ++ [l.getD (a + o + s * ((c + d) % m % b)).toNat 0] := by
  simp [slotsG, List.range_succ]
theorem slotsG_get (l : List Int) (a b c m o s : Int) (d j : Nat) (h : j < d) : (slotsG l a b c d m o s)[j]? = some (l.getD (a + o + s * ((c + j) % m % b)).toNat 0) := by
  simp [slotsG, h]
/-! what may be, as a condition -/
def powB (c : SI) : SB := .or (.eq c (.lit 2)) (.or (.eq c (.lit 4)) (.or (.eq c (.lit 8)) (.or (.eq c (.lit 16)) (.or (.eq c (.lit 32)) (.or (.eq c (.lit 64)) (.or (.eq c (.lit 128)) (.eq c (.lit 256))))))))
def rightB (k : Int) (at' size : SI) : SB := .and (.not (.lt at' (.lit 0))) (.and (.lt at' (.sub (.lit 65535) (.mul (.lit k) size))) (powB size))
def Right (k at' size : Int) : Prop := 0 ≤ at' ∧ at' < 65535 - k * size ∧ Pow size
theorem powB_den {G : Type} (ν : Env G) (c : SI) : (powB c).den ν = true ↔ Pow (c.den ν) := by
  simp only [powB, SB.den, SI.den, Pow, Bool.or_eq_true, beq_iff_eq]
theorem rightB_den {G : Type} (ν : Env G) (k : Int) (a c : SI) : (rightB k a c).den ν = true ↔ Right k (a.den ν) (c.den ν) := by
  simp only [rightB, SB.den, Right, Bool.and_eq_true, powB_den, Bool.not_eq_true', decide_eq_false_iff_not, decide_eq_true_eq]
  simp only [SI.den]
  constructor
  · rintro ⟨h1, h2, h3⟩; exact ⟨by omega, by omega, h3⟩
  · rintro ⟨h1, h2, h3⟩; exact ⟨by omega, by omega, h3⟩
theorem rightB_no {G : Type} (ν : Env G) (k : Int) (a c : SI) : (rightB k a c).den ν = false ↔ ¬ Right k (a.den ν) (c.den ν) := by
  rw [← rightB_den]; cases (rightB k a c).den ν <;> simp
theorem Pow.le {c : Int} (h : Pow c) : 2 ≤ c ∧ c ≤ 256 := by unfold Pow at h; omega
end Go.Proofs.Ytlmenjenkpnacaa
end

section
namespace Go.Proofs.Ytlmenjenkpnacaa
open Go Go.Sy Go.RowKit

theorem emod_two {x m b : Int} (h : b ∣ m) : x % m % b = x % b := Int.emod_emod_of_dvd x h
theorem pow_dvd64 {b : Int} (h : Pow b) : b ∣ 18446744073709551616 := by
  unfold Pow at h
  rcases h with rfl | rfl | rfl | rfl | rfl | rfl | rfl | rfl <;> decide
theorem pow_dvd32 {b : Int} (h : Pow b) : b ∣ 4294967296 := by
  unfold Pow at h
  rcases h with rfl | rfl | rfl | rfl | rfl | rfl | rfl | rfl <;> decide
/-- Two numbers less than a row's size apart have two slots. -/
theorem emod_ne {b t j k : Int} (h0 : 0 ≤ j) (h1 : j < k) (h2 : k - j < b) : (t + j) % b ≠ (t + k) % b := by
  intro h
  have h3 : (t + k - (t + j)) % b = 0 := Int.emod_eq_emod_iff_emod_sub_eq_zero.1 h.symm
  have h4 : t + k - (t + j) = k - j := by omega
  rw [h4, Int.emod_eq_of_lt (by omega) h2] at h3
  omega
theorem getD_set_ne (l : List Int) (i j : Nat) (v : Int) (h : i ≠ j) : (l.set i v).getD j 0 = l.getD j 0 := by
  simp only [List.getD_eq_getElem?_getD, List.getElem?_set]
  rw [if_neg h]
theorem getD_set_eq (l : List Int) (i : Nat) (v : Int) (h : i < l.length) : (l.set i v).getD i 0 = v := by
  simp [List.getD_eq_getElem?_getD, h]
theorem slotsG_congr {l l' : List Int} {a b c m o s : Int} {d : Nat} (h : ∀ j : Nat, j < d → l'.getD (a + o + s * ((c + j) % m % b)).toNat 0 = l.getD (a + o + s * ((c + j) % m % b)).toNat 0) : slotsG l' a b c d m o s = slotsG l a b c d m o s := by
  unfold slotsG
  refine List.map_congr_left fun j hj => ?_
  exact h j (by simpa using hj)
/-- Another cell is laid. -/
theorem slotsG_other {l : List Int} {a b c m o s : Int} {d : Nat} {i : Nat} {v : Int} (h : ∀ j : Nat, j < d → (a + o + s * ((c + j) % m % b)).toNat ≠ i) : slotsG (l.set i v) a b c d m o s = slotsG l a b c d m o s :=
  slotsG_congr fun j hj => getD_set_ne _ _ _ _ (fun e => h j hj e.symm)
/-- A cell in front of all slots is laid. -/
theorem slotsG_front {l : List Int} {a b c m o s : Int} {d : Nat} {i : Nat} {v : Int} (hb : 0 < b) (hs : 0 ≤ s) (h : (i : Int) < a + o) : slotsG (l.set i v) a b c d m o s = slotsG l a b c d m o s := by
  refine slotsG_other fun j _ => ?_
  have h0 : 0 ≤ (c + (j : Int)) % m % b := Int.emod_nonneg _ (by omega)
  have h1 : 0 ≤ s * ((c + (j : Int)) % m % b) := Int.mul_nonneg hs h0
  omega
/-- One more is laid behind all. -/
theorem slotsG_push {l : List Int} {a b c m o s : Int} {d : Nat} {i : Nat} {v : Int} (hb : b ∣ m) (hs : 0 < s) (h0 : 0 ≤ a + o) (hd : (d : Int) < b) (hi : i = (a + o + s * ((c + d) % m % b)).toNat) (hl : i < l.length) : slotsG (l.set i v) a b c (d + 1 : Nat) m o s = slotsG l a b c d m o s ++ [v] := by
  rw [slotsG_step, ← hi, getD_set_eq _ _ _ hl, slotsG_other]
  intro j hj
  rw [hi, emod_two hb, emod_two hb]
  have hne := emod_ne (b := b) (t := c) (j := j) (k := d) (by omega) (by omega) (by omega)
  have h1 : 0 ≤ (c + (j : Int)) % b := Int.emod_nonneg _ (by omega)
  have h2 : 0 ≤ (c + (d : Int)) % b := Int.emod_nonneg _ (by omega)
  have h3 : 0 ≤ s * ((c + (j : Int)) % b) := Int.mul_nonneg (by omega) h1
  have h4 : 0 ≤ s * ((c + (d : Int)) % b) := Int.mul_nonneg (by omega) h2
  intro e
  have h5 : s * ((c + (j : Int)) % b) = s * ((c + (d : Int)) % b) := by omega
  exact hne (Int.eq_of_mul_eq_mul_left (by omega) h5)
theorem slotsG_mod (l : List Int) (a b c d m o s : Int) : slotsG l a b (c % m) d m o s = slotsG l a b c d m o s := by
  unfold slotsG
  refine List.map_congr_left fun j _ => ?_
  rw [Int.emod_add_emod]
/-- Without the first one. -/
theorem slotsG_tail (l : List Int) (a b c m o s : Int) (d : Nat) : slotsG l a b (c + 1) d m o s = (slotsG l a b c (d + 1 : Nat) m o s).drop 1 := by
  unfold slotsG
  refine List.ext_getElem (by simp) fun j h1 h2 => ?_
  simp only [List.getElem_map, List.getElem_range, List.getElem_drop]
  congr 6
  omega
/-- Without the last one. -/
theorem slotsG_init (l : List Int) (a b c m o s : Int) (d : Nat) : slotsG l a b c d m o s = (slotsG l a b c (d + 1 : Nat) m o s).take d := by
  rw [slotsG_step, List.take_append_of_le_length (by rw [slotsG_length]; omega), List.take_of_length_le (by rw [slotsG_length]; omega)]
theorem slotsG_getD {l : List Int} {a b c m o s : Int} {d j : Nat} (h : j < d) : (slotsG l a b c d m o s).getD j 0 = l.getD (a + o + s * ((c + j) % m % b)).toNat 0 := by
  rw [List.getD_eq_getElem?_getD, slotsG_get l a b c m o s d j h]; rfl
end Go.Proofs.Ytlmenjenkpnacaa
end

section
namespace Go.Proofs.Ytlmenjenkpnacaa
open Go Go.Sy Go.RowKit

def trueK (_ : Nat) (args : List SV) (pc : PC) (hp : Heap) : Option (List CLeaf) := match args with
  | [] => some [⟨false, .bool (.lit true), pc, hp⟩]
  | _ => none
theorem true_ok {G : Type} {O : Orac} {I : In G} {f : Nat} (hf : ∀ w, Calls Try.prog f #[] w fun e w' => e = .returned (.bool true) ∧ Below w.heap.size w w') (oo : OOK Try.prog O I) : OOK Try.prog (O.withCall f trueK) I := by
  refine withCall_ok oo ?_
  intro lo args pc hp cs h sz hsz B ν ρ w R hI hpc hw hl
  unfold trueK at h
  split at h
  · cases h
    exact pure_call' (v := .bool (.lit true)) hpc hw hl (List.mem_cons_self ..) (hf w)
  · cases h
end Go.Proofs.Ytlmenjenkpnacaa
end

section
namespace Go.Proofs.Ytlmenjenkpnacaa
open Go Go.Sy Go.RowKit

def tSame : Tmpl := ⟨[.sl 0 (.var 0) (.len (.var 0)) (.var 1), .sl 1 (.var 2) (.len (.var 1)) (.var 3)], [(.lt (.var 0) (.lit 0), false), (.lt (.var 2) (.lit 0), false)], [(0, .view .u64 (.var 0) (.var 0)), (1, .view .u64 (.var 2) (.var 1))]⟩
def nSame : Nat := nmAt 4
def eSame (P : Program) : Leaf := capL P noOrac 20 4 tSame.args tSame.pc tSame.hp
def hSame (P : Program) : Leaf := hdFrom 6 (hdI nSame 5 0 (eSame P))
def pSame : PC := (.lt (.var (nSame + 0)) (.lit 0), false) :: (.eq (.len (.var 0)) (.len (.var 1)), true) :: tSame.pc
def gSame (P : Program) : List Tgt := [⟨.exit 0, (hSame P).fr, tSame.hp, [(eqX (.var 0) (.var 1), true)]⟩, ⟨.ret, deadFrom 5 (hSame P).fr, tSame.hp, [(eqX (.var 0) (.var 1), false)]⟩]
def bSame : PC := [(.eq (.len (.var 0)) (.len (.var 1)), false), (.lt (.var 0) (.lit 0), true), (.lt (.var 2) (.lit 0), true), (.lt (.lit 9223372036854775807) (.len (.var 0)), true)]
def sSame (P : Program) : Option (List SumT) := (codeX P noOrac LO7 SZ7 20 6000 0 (loopAt P 20 4) (hSame P).fr pSame tSame.hp).bind (sumsT P nSame LO7 SZ7 (⟨.normal, (hSame P).fr, tSame.hp, pSame⟩ :: gSame P))
def oSame (P : Program) : Orac := noOrac.withLoop 20 4 nSame (eSame P).fr tSame.hp (mkM nSame (gSame P) bSame)
end Go.Proofs.Ytlmenjenkpnacaa
end

section
namespace Go.Proofs.Ytlmenjenkpnacaa
open Go Go.Sy Go.RowKit

def sumsSame : List SumT := [
  ⟨.bad, 0, ⟨[], [], [], [], [], [], [], []⟩, [((.lt (.var (nSame + 0)) (.len (.var 1))), false), ((.lt (.var (nSame + 0)) (.len (.var 0))), true), ((.lt (.var (nSame + 0)) (.lit 0)), false), ((.eq (.len (.var 0)) (.len (.var 1))), true), ((.lt (.var 0) (.lit 0)), false), ((.lt (.var 2) (.lit 0)), false)]⟩,
  ⟨.ret, 1, ⟨[], [], [], [], [], [], [], []⟩, [((.eq (.nth (.var 0) (.var (nSame + 0))) (.nth (.var 1) (.var (nSame + 0)))), false), ((.lt (.var (nSame + 0)) (.len (.var 1))), true), ((.lt (.var (nSame + 0)) (.len (.var 0))), true), ((.lt (.var (nSame + 0)) (.lit 0)), false), ((.eq (.len (.var 0)) (.len (.var 1))), true), ((.lt (.var 0) (.lit 0)), false), ((.lt (.var 2) (.lit 0)), false)]⟩,
  ⟨.normal, 0, ⟨[], [(0, (.wrap .i64 (.add (.var (nSame + 0)) (.lit 1))))], [], [], [], [], [], []⟩, [((.eq (.nth (.var 0) (.var (nSame + 0))) (.nth (.var 1) (.var (nSame + 0)))), true), ((.lt (.var (nSame + 0)) (.len (.var 1))), true), ((.lt (.var (nSame + 0)) (.len (.var 0))), true), ((.lt (.var (nSame + 0)) (.lit 0)), false), ((.eq (.len (.var 0)) (.len (.var 1))), true), ((.lt (.var 0) (.lit 0)), false), ((.lt (.var 2) (.lit 0)), false)]⟩,
  ⟨.exit 0, 0, ⟨[], [(0, (.var (nSame + 0)))], [], [], [], [], [], []⟩, [((.lt (.var (nSame + 0)) (.len (.var 0))), false), ((.lt (.var (nSame + 0)) (.lit 0)), false), ((.eq (.len (.var 0)) (.len (.var 1))), true), ((.lt (.var 0) (.lit 0)), false), ((.lt (.var 2) (.lit 0)), false)]⟩]
def startSame : Mt := ⟨[], [(0, (.lit 0))], [], [], [], [], [], []⟩
def ouSame : List CLeaf := [
  ⟨false, (.bool (.lit false)), [((.eq (.len (.var 0)) (.len (.var 1))), false), ((.lt (.var 0) (.lit 0)), false), ((.lt (.var 2) (.lit 0)), false)], [(0, (.view .u64 (.var 0) (.var 0))), (1, (.view .u64 (.var 2) (.var 1)))]⟩,
  ⟨false, (.bool (.lit true)), [((.gb 0 (.app 2 (.app 1 (.var 0) (.var 0) (.lit 0) (.lit 0) (.lit 0) (.lit 0) (.var 0)) (.app 1 (.var 0) (.var 0) (.lit 0) (.lit 0) (.lit 0) (.lit 0) (.var 1)) (.lit 0) (.lit 0) (.lit 0) (.lit 0) .nil) (.lit 0) (.lit 0)), true), ((.eq (.len (.var 0)) (.len (.var 1))), true), ((.lt (.var 0) (.lit 0)), false), ((.lt (.var 2) (.lit 0)), false)], [(0, (.view .u64 (.var 0) (.var 0))), (1, (.view .u64 (.var 2) (.var 1)))]⟩,
  ⟨false, (.bool (.lit false)), [((.gb 0 (.app 2 (.app 1 (.var 0) (.var 0) (.lit 0) (.lit 0) (.lit 0) (.lit 0) (.var 0)) (.app 1 (.var 0) (.var 0) (.lit 0) (.lit 0) (.lit 0) (.lit 0) (.var 1)) (.lit 0) (.lit 0) (.lit 0) (.lit 0) .nil) (.lit 0) (.lit 0)), false), ((.eq (.len (.var 0)) (.len (.var 1))), true), ((.lt (.var 0) (.lit 0)), false), ((.lt (.var 2) (.lit 0)), false)], [(0, (.view .u64 (.var 0) (.var 0))), (1, (.view .u64 (.var 2) (.var 1)))]⟩,
  ⟨true, (.tup []), [((.lt (.lit 9223372036854775807) (.len (.var 0))), true), ((.eq (.len (.var 0)) (.len (.var 1))), true), ((.lt (.var 0) (.lit 0)), false), ((.lt (.var 2) (.lit 0)), false)], []⟩]
theorem bodySame : sSame Try.prog = some sumsSame := by kernel_rfl
theorem stSame : mAll nSame 0 0 Try.prog (eSame Try.prog).fr tSame.hp (hSame Try.prog).fr tSame.hp = some startSame := by kernel_rfl
theorem oneSame : (loopsAt Try.prog 20 4).length = 1 := by kernel_rfl
theorem runSame : runX Try.prog (oSame Try.prog) 20 tSame.args tSame.pc tSame.hp = some ouSame := by kernel_rfl
attribute [local irreducible] nmAt
theorem oSame_ok : OOK Try.prog (oSame Try.prog) inM := by
  have hb : ∀ {ν : Env Gh}, (∀ x ∈ bSame, x.1.den ν ≠ x.2) → (ν.l 0).length = (ν.l 1).length ∧ 0 ≤ ν.i 0 ∧ 0 ≤ ν.i 2 ∧ (ν.l 0).length ≤ 9223372036854775807 := by
    intro ν h
    simp only [bSame, bads_cons, SB.den, Bool.not_true, Bool.not_false, decide_eq_true_eq, decide_eq_false_iff_not, beq_iff_eq] at h
    simp only [SI.den, SL.den] at h
    omega
  have hp : ∀ {ν : Env Gh} {x : Vals Gh}, (∀ x ∈ bSame, x.1.den ν ≠ x.2) → 0 ≤ x.i 0 → pcDen (ν.at nSame x) pSame := by
    intro ν x h h0
    have := hb h
    have rf : RF nSame ν x (ν.at nSame x) := RF.self rfl
    simp only [pSame, tSame, pcDen_cons_iff, pcDen_nil_iff, and_true, SB.den, decide_eq_false_iff_not, beq_iff_eq]
    simp only [SI.den, SL.den, rf.i 0 (by decide), rf.io 0 (by decide), rf.io 2 (by decide), rf.lo 0 (by decide), rf.lo 1 (by decide)]
    omega
  refine loopT_ok pr noOrac_ok (rfl : nSame = nmAt 4) (by decide +kernel) oneSame (ghL []) bodySame stSame
    (fun ν x => 0 ≤ x.i 0 ∧ x.i 0 ≤ (ν.l 0).length ∧ ∀ j : Nat, (j : Int) < x.i 0 → (ν.l 0).getD j 0 = (ν.l 1).getD j 0) (fun ν x => ((ν.l 0).length - x.i 0).toNat) ?_ ?_ noOrac_ok
  · intro ν hI h
    have := hb h
    refine ⟨⟨by simp [startSame, Mt.vals, lkp, SI.den], by simp [startSame, Mt.vals, lkp, SI.den], fun j hj => ?_⟩, hp h (by simp [startSame, Mt.vals, lkp, SI.den]), by constructor <;> simp [startSame]⟩
    simp [startSame, Mt.vals, lkp, SI.den] at hj
    omega
  · intro t ht ν x ν2 hI h hJ _ rf hpc
    have := hb h
    obtain ⟨j1, j2, j3⟩ := hJ
    simp only [sumsSame, List.mem_cons, List.not_mem_nil, or_false] at ht
    rcases ht with rfl | rfl | rfl | rfl
    all_goals
      simp only [pcDen_cons_iff, SB.den, decide_eq_true_eq, decide_eq_false_iff_not, beq_iff_eq, beq_eq_false_iff_ne] at hpc
      simp only [SI.den, SL.den, rf.i 0 (by decide), rf.io 0 (by decide), rf.io 2 (by decide), rf.lo 0 (by decide), rf.lo 1 (by decide)] at hpc
    · show False
      omega
    · refine ⟨fun g hg => ?_, by constructor <;> simp⟩
      cases hg
      refine pcDen_one ?_
      have rf3 : ∀ y, RF nSame ν y (ν.at nSame y) := fun y => RF.self rfl
      rw [eqX_den ((rf3 _).I.trans hI)]
      simp only [SL.den, beq_eq_false_iff_ne, (rf3 _).lo 0 (by decide), (rf3 _).lo 1 (by decide)]
      intro e
      exact hpc.1 (by rw [e])
    · have e : (Mt.vals ⟨[], [(0, (.wrap .i64 (.add (.var (nSame + 0)) (.lit 1))))], [], [], [], [], [], []⟩ (ghL []) ν2).i 0 = x.i 0 + 1 := by
        simp only [Mt.vals, lkp, Nat.beq_refl, if_true, SI.den, rf.i 0 (by decide)]
        rw [wrapS _ (by omega) (by omega)]
      refine ⟨⟨by rw [e]; omega, by rw [e]; omega, fun j hj => ?_⟩, hp h (by rw [e]; omega), by rw [e]; omega, by constructor <;> simp⟩
      rw [e] at hj
      rcases Int.lt_or_le (j : Int) (x.i 0) with hlt | hlt
      · exact j3 j hlt
      · have e2 : (x.i 0).toNat = j := by omega
        have := hpc.1
        rwa [e2] at this
    · refine ⟨fun g hg => ?_, by constructor <;> simp⟩
      cases hg
      refine pcDen_one ?_
      have rf3 : ∀ y, RF nSame ν y (ν.at nSame y) := fun y => RF.self rfl
      rw [eqX_den ((rf3 _).I.trans hI)]
      simp only [SL.den, beq_iff_eq, (rf3 _).lo 0 (by decide), (rf3 _).lo 1 (by decide)]
      exact list_ext (by omega) (fun j hj => j3 j (by omega))
def kSame (P : Program) := sumK P tSame ouSame
theorem same_ok {O : Orac} (oo : OOK Try.prog O inM) : OOK Try.prog (O.withCallF 20 (kSame Try.prog)) inM := withCallF_ok oo (sum_ok pr oSame_ok runSame oo)
end Go.Proofs.Ytlmenjenkpnacaa
end

section
namespace Go.Proofs.Ytlmenjenkpnacaa
open Go Go.Sy Go.RowKit

def oSm (P : Program) : Orac := ((noOrac.withOp (opSliceT P)).withOp (opAppendW P)).withOp (opLoadS P)
/-- all of a list's numbers lie in between -/
def rangeB (l : SL) (a b : Int) : SB := .gb 0 (.app 45 (.var 0) (.var 0) (.lit a) (.lit b) (.lit 0) (.lit 0) l) (.lit 0) (.lit 0)
/-- a walk that has ended -/
def overW (n j ty : Nat) : SBk := .cells [.int .i64 (.var (n + j)), .int .i64 (.var (n + j + 1)), .int .u64 (.var (n + j + 2)), .int .u64 (.var (n + j + 3)), .nilFunc, .bool (.lit false), .nilPtr, .nilFunc, .bool (.lit true), .int .i64 (.var (n + j + 4)), .int .u64 (.var (n + j + 5)), .nilSl, .nilSl] ty true
def ptrOf : SV → Nat
  | .ptr b _ => b
  | .sl b _ _ _ => b
  | _ => 0
def cellN (hp : Heap) (b k : Nat) : SV := match hget b hp with
  | some (.cells cs _ _) => (cs[k]?).getD .dead
  | _ => .dead
def setCell (b k : Nat) (v : SV) (hp : Heap) : Heap := match hget b hp with
  | some (.cells cs t x) => hset b (.cells (cs.set k v) t x) hp
  | _ => hp
def setList (b : Nat) (l : SL) (hp : Heap) : Heap := match hget b hp with
  | some (.row k _ c t) => hset b (.row k l c t) hp
  | _ => hp
def keepFr (ks : List Nat) (fr : List SV) : List SV := fr.zipIdx.map fun x => if ks.any (Nat.beq x.2) then x.1 else .dead
/-- What the frame leads to. -/
def insA (n : Nat) (l : List Nat) : List Nat := if l.any (Nat.beq n) then l else n :: l
def ptrs : List SV → List Nat → List Nat
  | [], ns => ns
  | .ptr b _ :: r, ns => ptrs r (insA b ns)
  | .sl b _ _ _ :: r, ns => ptrs r (insA b ns)
  | _ :: r, ns => ptrs r ns
def reachB (hp : Heap) (ns : List Nat) : List Nat := hp.foldl (fun ns x => if ns.any (Nat.beq x.1) then (match x.2 with | .cells cs _ _ => ptrs cs ns | _ => ns) else ns) ns
def reachK (hp : Heap) : Nat → List Nat → List Nat
  | 0, ns => ns
  | k + 1, ns => reachK hp k (reachB hp ns)
def reachL (L : Leaf) : Leaf := let ns := reachK L.hp L.hp.length (ptrs L.fr [])
  { L with hp := L.hp.filter fun x => ns.any (Nat.beq x.1) }
def qAt (l : List PC) (k : Nat) : PC := (l[k]?).getD []
def hdAt (l : List Tgt) (k : Nat) : Tgt := (l[k]?).getD ⟨.bad, [], [], []⟩
theorem pcAt {G : Type} {ν : Env G} {pc : PC} (h : pcDen ν pc) (k : Nat) {c : SB} {b : Bool} (hk : pc[k]? = some (c, b)) : c.den ν = b := h c b (List.mem_of_getElem? hk)
theorem lt_den {G : Type} {ν : Env G} {a c : SI} {b : Bool} (h : (SB.lt a c).den ν = b) : a.den ν < c.den ν ↔ b = true := by
  simp only [SB.den] at h
  rw [← h]
  exact decide_eq_true_iff.symm
theorem lt_of {G : Type} {ν : Env G} {a c : SI} {b : Bool} (h : a.den ν < c.den ν ↔ b = true) : (SB.lt a c).den ν = b := by
  simp only [SB.den]
  cases b
  · exact decide_eq_false (by simpa using h)
  · exact decide_eq_true (by simpa using h)
theorem range_den {ν : Env Gh} (hI : ν.I = inM) (l : SL) (a b : Int) : (rangeB l a b).den ν = true ↔ ∀ x ∈ l.den ν, a ≤ x ∧ x ≤ b := by
  simp only [rangeB, SB.den, SG.den, SI.den, hI, inM, xga]
  simp
theorem wu (x : Int) : IntKind.u64.wrap x = x % 18446744073709551616 := wrapU x
theorem one : (1 : Int).toNat = 1 := rfl
/-- A path turned, that is not met by any: all of it holds. -/
theorem bads_of {ν : Env Gh} {p : PC} (h : ∀ x ∈ p.map fun x => (x.1, !x.2), x.1.den ν ≠ x.2) : pcDen ν p := by
  intro c b hm
  have := h (c, !b) (List.mem_map.2 ⟨(c, b), hm, rfl⟩)
  revert this
  simp only
  cases c.den ν <;> cases b <;> simp
end Go.Proofs.Ytlmenjenkpnacaa
end

section
namespace Go.Proofs.Ytlmenjenkpnacaa
open Go Go.Sy Go.RowKit

theorem lnG_length (l : List Int) (at' size from' i : Int) : (lnG l at' size from' i).length = l.length := by simp [lnG]
theorem lnG_get (l : List Int) (at' size from' i : Int) (k : Nat) (h : k < (lnG l at' size from' i).length) : (lnG l at' size from' i)[k] = if (k : Int) = at' ∨ (k : Int) = at' + 1 then from'
  else if at' + 2 ≤ (k : Int) ∧ (k : Int) < at' + 2 + 2 * size ∧ rnd size from' (((k : Int) - at' - 2) / 2) < i then
    (if ((k : Int) - at') % 2 = 0 then (from' + rnd size from' (((k : Int) - at' - 2) / 2)) % 18446744073709551616 else 0)
  else l.getD k 0 := by
  simp [lnG]
theorem rnd_of {size from' i : Int} (h0 : 0 ≤ i) (h1 : i < size) : rnd size from' ((from' + i) % size) = i := by
  unfold rnd
  rw [Int.sub_emod, Int.emod_emod_of_dvd _ (Int.dvd_refl _), ← Int.sub_emod, show from' + i - from' = i by omega]
  exact Int.emod_eq_of_lt h0 h1
theorem rnd_inv {size from' s : Int} (h0 : 0 ≤ s) (h1 : s < size) : (from' + rnd size from' s) % size = s := by
  unfold rnd
  rw [Int.add_emod, Int.emod_emod_of_dvd _ (Int.dvd_refl _), ← Int.add_emod, show from' + (s - from') = s by omega]
  exact Int.emod_eq_of_lt h0 h1
theorem rnd_range {size from' s : Int} (h : 0 < size) : 0 ≤ rnd size from' s ∧ rnd size from' s < size :=
  ⟨Int.emod_nonneg _ (by omega), Int.emod_lt_of_pos _ h⟩
section
variable {l : List Int} {at' size from' i : Int}
theorem lnG_start (h0 : 0 ≤ at') (hs : 0 < size) : (l.set at'.toNat from').set (at' + 1).toNat from' = lnG l at' size from' 0 := by
  refine List.ext_getElem (by simp [lnG_length]) fun k h h' => ?_
  have hk : k < l.length := by simpa using h
  rw [List.getElem_set, List.getElem_set, lnG_get]
  by_cases c1 : (k : Int) = at'
  · rw [if_neg (by omega), if_pos (by omega), if_pos (.inl c1)]
  · by_cases c2 : (k : Int) = at' + 1
    · rw [if_pos (by omega), if_pos (.inr c2)]
    · have := (rnd_range (size := size) (from' := from') (s := ((k : Int) - at' - 2) / 2) hs).1
      rw [if_neg (by omega), if_neg (by omega), if_neg (by omega), if_neg (by omega)]
      simp [List.getD_eq_getElem?_getD, hk]
theorem lnG_step (h0 : 0 ≤ at') (hi : 0 ≤ i) (his : i < size) (hd : size ∣ 18446744073709551616) (s : Int) (es : s = (from' + i) % 18446744073709551616 % size) (hlen : at' + 2 + 2 * size ≤ l.length) :
    ((lnG l at' size from' i).set (at' + 2 + 2 * s).toNat ((from' + i) % 18446744073709551616)).set (at' + 3 + 2 * s).toNat 0 = lnG l at' size from' (i + 1) := by
  rw [Int.emod_emod_of_dvd _ hd] at es
  have hs : 0 ≤ s ∧ s < size := by rw [es]; exact ⟨Int.emod_nonneg _ (by omega), Int.emod_lt_of_pos _ (by omega)⟩
  have hr : rnd size from' s = i := by rw [es]; exact rnd_of hi his
  refine List.ext_getElem (by simp [lnG_length]) fun k h h' => ?_
  rw [List.getElem_set, List.getElem_set, lnG_get, lnG_get]
  by_cases c1 : (k : Int) = at' + 2 + 2 * s
  · have e : ((k : Int) - at' - 2) / 2 = s := by omega
    rw [if_neg (by omega), if_pos (by omega), if_neg (by omega), e, hr, if_pos (by omega), if_pos (by omega)]
  · by_cases c2 : (k : Int) = at' + 3 + 2 * s
    · have e : ((k : Int) - at' - 2) / 2 = s := by omega
      rw [if_pos (by omega), if_neg (by omega), e, hr, if_pos (by omega), if_neg (by omega)]
    · rw [if_neg (by omega), if_neg (by omega)]
      by_cases c3 : at' + 2 ≤ (k : Int) ∧ (k : Int) < at' + 2 + 2 * size
      · have hne : rnd size from' (((k : Int) - at' - 2) / 2) ≠ i := by
          intro e
          have hv := rnd_inv (size := size) (from' := from') (s := ((k : Int) - at' - 2) / 2) (by omega) (by omega)
          rw [e, ← es] at hv
          omega
        by_cases c4 : rnd size from' (((k : Int) - at' - 2) / 2) < i
        · have n : ¬ ((k : Int) = at' ∨ (k : Int) = at' + 1) := by omega
          rw [if_neg n, if_pos (⟨c3.1, c3.2, c4⟩ : at' + 2 ≤ (k : Int) ∧ (k : Int) < at' + 2 + 2 * size ∧ rnd size from' (((k : Int) - at' - 2) / 2) < i), if_neg n, if_pos (⟨c3.1, c3.2, by omega⟩ : at' + 2 ≤ (k : Int) ∧ (k : Int) < at' + 2 + 2 * size ∧ rnd size from' (((k : Int) - at' - 2) / 2) < i + 1)]
        · rw [if_neg (by omega), if_neg (fun h => c4 h.2.2), if_neg (by omega), if_neg (fun h => by have := h.2.2; omega)]
      · by_cases c5 : (k : Int) = at' ∨ (k : Int) = at' + 1
        · rw [if_pos c5, if_pos c5]
        · rw [if_neg c5, if_neg (fun h => c3 ⟨h.1, h.2.1⟩), if_neg c5, if_neg (fun h => c3 ⟨h.1, h.2.1⟩)]
/-- all rounds: the lane's cells laid over the list -/
theorem lnG_all (h0 : 0 ≤ at') (hs : 0 < size) (hlen : at' + 2 + 2 * size ≤ l.length) :
    lnG l at' size from' size = l.take at'.toNat ++ (lnG (List.replicate (2 * size + 2).toNat 0) 0 size from' size ++ l.drop (at' + 2 * size + 2).toNat) := by
  have ll : (lnG (List.replicate (2 * size + 2).toNat (0 : Int)) 0 size from' size).length = (2 * size + 2).toNat := by rw [lnG_length]; simp
  have lt : (l.take at'.toNat).length = at'.toNat := by rw [List.length_take]; omega
  refine List.ext_getElem (by rw [lnG_length, List.length_append, List.length_append, ll, lt, List.length_drop]; omega) fun k h h' => ?_
  have hk : k < l.length := by rwa [lnG_length] at h
  rw [lnG_get, List.getElem_append]
  by_cases c1 : k < at'.toNat
  · rw [dif_pos (by omega), if_neg (by omega), if_neg (by omega), List.getElem_take]
    simp [List.getD_eq_getElem?_getD, hk]
  · rw [dif_neg (by omega), List.getElem_append]
    by_cases c2 : k < (at' + 2 * size + 2).toNat
    · rw [dif_pos (by omega), lnG_get]
      have e : (((k - (l.take at'.toNat).length : Nat)) : Int) = (k : Int) - at' := by omega
      rw [e]
      by_cases c3 : (k : Int) = at' ∨ (k : Int) = at' + 1
      · rw [if_pos c3, if_pos (by omega)]
      · have hr := (rnd_range (size := size) (from' := from') (s := ((k : Int) - at' - 2) / 2) hs).2
        have n : ¬ ((k : Int) - at' = 0 ∨ (k : Int) - at' = 0 + 1) := by omega
        rw [if_neg c3, if_pos (⟨by omega, by omega, hr⟩ : at' + 2 ≤ (k : Int) ∧ (k : Int) < at' + 2 + 2 * size ∧ rnd size from' (((k : Int) - at' - 2) / 2) < size), Int.sub_zero, if_neg n, if_pos (⟨by omega, by omega, hr⟩ : 0 + 2 ≤ (k : Int) - at' ∧ (k : Int) - at' < 0 + 2 + 2 * size ∧ rnd size from' (((k : Int) - at' - 2) / 2) < size)]
    · rw [dif_neg (by omega), if_neg (by omega), if_neg (by omega), List.getElem_drop]
      simp only [List.getD_eq_getElem?_getD, List.getElem?_eq_getElem hk, Option.getD_some]
      congr 1
      omega
end
end Go.Proofs.Ytlmenjenkpnacaa
end
