/- What the executor asks of the program: the order of evaluation is drawn, and no function is named as the runtime's count of goroutines. -/
import Derived.Test.YtlmenjenkpnacaaSyC
import Derived.KernelRfl
import Derived.Test.YtlmenjenkpnacaaProg
import Derived.Test.YtlmenjenkpnacaaSyD
import Derived.Test.YtlmenjenkpnacaaSyA
import Derived.Test.YtlmenjenkpnacaaSyH
import Derived.Test.YtlmenjenkpnacaaSyK
import Derived.Test.YtlmenjenkpnacaaSyM
set_option linter.unusedVariables false
set_option linter.unusedSimpArgs false

section
namespace Go.Proofs.Ytlmenjenkpnacaa
open Go Go.Sy

theorem mixed : Try.prog.follows .mixedOrders = true := by kernel_rfl
theorem ng : ∀ (f : Nat) (fn : Func), Try.prog.funcs[f]? = some fn → (fn.name == "runtime.NumGoroutine") = false := by
  have h : Try.prog.funcs.all (fun fn => !(fn.name == "runtime.NumGoroutine")) = true := by kernel_rfl
  intro f fn hf
  have := Array.all_eq_true'.1 h fn (Array.mem_of_getElem? hf)
  simpa using this
theorem pr : PR Try.prog := ⟨mixed, ng⟩

theorem own : ownKnob Try.prog.godebug = none := by kernel_rfl

/-- Numbers, lists; no ghost. -/
def envOf (i : Nat → Int) (b : Nat → Bool) (l : Nat → List Int) (e : Nat → Addr) : Env Unit := ⟨In.none, fun _ => (), i, b, fun _ => .bool false, l, e, fun _ => rfl⟩
def noAddr : Nat → Addr := fun _ => ⟨0, 0, none⟩
end Go.Proofs.Ytlmenjenkpnacaa
end

section
namespace Go.Proofs.Ytlmenjenkpnacaa
open Go Go.Sy

def sgnB : List Char := List.map Char.ofNat [53,99,100,48,56,49,100,53,55,98,54,52,98,100,99,53,53,99,101,49,53,100,55,51,49,57,57,55,51,98,99,97,49,51,54,53,53,98,57,49,48,55,51,53,55,55,56,49,101,101,52,54,55,48,50,102,101,102,99,53,101,55,50,53]
def sgnR : List Char := List.map Char.ofNat [97,116,32,99,111,97,99,104,121,97,114,100,47,99,111,97,99,104,121,97,114,100,108,97,119,48,54,46,65,114,101,110,97,73,110,105,116,115,32,99,111,97,99,104,121,97,114,100,47,99,111,97,99,104,121,97,114,100,108,97,119,48,54,46,65,114,101,110,97,79,110,99,101,32,99,111,97,99,104,121,97,114,100,47,99,111,97,99,104,121,97,114,100,108,97,119,48,54,46,65,114,101,110,97,83,116,101,112,115,32,99,111,97,99,104,121,97,114,100,47,99,111,97,99,104,121,97,114,100,108,97,119,51,50,46,76,97,110,101,65,108,108,32,99,111,97,99,104,121,97,114,100,47,99,111,97,99,104,121,97,114,100,108,97,119,51,50,46,76,97,110,101,65,108,111,110,101,32,99,111,97,99,104,121,97,114,100,47,99,111,97,99,104,121,97,114,100,108,97,119,51,50,46,76,97,110,101,83,116,101,112,115,32,99,111,97,99,104,121,97,114,100,47,99,111,97,99,104,121,97,114,100,108,97,119,51,50,46,76,97,110,101,80,108,97,121,115,32,99,111,97,99,104,121,97,114,100,47,99,111,97,99,104,121,97,114,100,108,97,119,48,55,46,68,101,113,117,101,83,116,101,112,115,32,99,111,97,99,104,121,97,114,100,47,99,111,97,99,104,121,97,114,100,108,97,119,48,55,46,68,101,113,117,101,83,116,101,97,108,115,32,99,111,97,99,104,121,97,114,100,47,99,111,97,99,104,121,97,114,100,108,97,119,48,55,46,68,101,113,117,101,80,108,97,121,115,32,99,111,97,99,104,121,97,114,100,47,99,111,97,99,104,121,97,114,100,108,97,119,48,56,46,82,105,110,103,65,108,111,110,101]
theorem sign : Try.prog.initOrder = String.ofList (signOf sgnB sgnR) := by kernel_rfl
theorem words : behindMainWord (wordsSigns Try.prog.initOrder.toList) = sgnC :: wordsSigns sgnR := words_of sign (by decide +kernel) (by decide +kernel)
theorem facts : ProgFacts Try.prog where
  laid := by kernel_rfl
  rowed := by kernel_rfl
  stops := by kernel_rfl
  knobs := by kernel_rfl
  keys := by kernel_rfl
  heard := by kernel_rfl
  enter := mayEnter_of words (by kernel_rfl) (by kernel_rfl) (by kernel_rfl)
  final := liftsFinal_of words
  make := make_of words
end Go.Proofs.Ytlmenjenkpnacaa
end

section
namespace Go.Proofs.Ytlmenjenkpnacaa
open Go Go.Sy Go.RowKit

theorem wrapS (x : Int) (h1 : -9223372036854775808 ≤ x) (h2 : x ≤ 9223372036854775807) : IntKind.i64.wrap x = x := by
  rw [IntKind.wrap_i64]; omega
theorem wrapU (x : Int) : IntKind.u64.wrap x = x % 18446744073709551616 := by
  rw [IntKind.wrap_u64]
theorem list_ext {xs ys : List Int} (hl : xs.length = ys.length) (h : ∀ j : Nat, (j : Int) < xs.length → xs.getD j 0 = ys.getD j 0) : xs = ys := by
  refine List.ext_getElem hl fun j h1 h2 => ?_
  have := h j (by omega)
  simpa [List.getD_eq_getElem?_getD, h1, h2] using this
theorem bits_all : (List.range 257).all (fun n => decide (n < 2) || (decide (bitsDen 0 .i64 n (IntKind.i64.wrap (n - 1)) = 0) == (n == 2 || n == 4 || n == 8 || n == 16 || n == 32 || n == 64 || n == 128 || n == 256))) = true := by decide +kernel
/-- The sizes that may be. -/
def Pow (c : Int) : Prop := c = 2 ∨ c = 4 ∨ c = 8 ∨ c = 16 ∨ c = 32 ∨ c = 64 ∨ c = 128 ∨ c = 256
theorem bits_iff (c : Int) (h1 : 2 ≤ c) (h2 : c ≤ 256) : bitsDen 0 .i64 c (IntKind.i64.wrap (c - 1)) = 0 ↔ Pow c := by
  obtain ⟨n, rfl⟩ : ∃ n : Nat, c = n := ⟨c.toNat, by omega⟩
  have h := List.all_eq_true.1 bits_all n (List.mem_range.2 (by omega))
  simp only [Bool.or_eq_true, decide_eq_true_eq, beq_iff_eq] at h
  rcases h with h | h
  · omega
  · unfold Pow
    constructor
    · intro h3
      have h4 : decide (bitsDen 0 .i64 (n : Int) (IntKind.i64.wrap ((n : Int) - 1)) = 0) = true := decide_eq_true h3
      rw [h4] at h
      have := h.symm
      simp only [Bool.or_eq_true, beq_iff_eq] at this
      omega
    · intro h3
      have : (n == 2 || n == 4 || n == 8 || n == 16 || n == 32 || n == 64 || n == 128 || n == 256) = true := by
        simp only [Bool.or_eq_true, beq_iff_eq]; omega
      rw [this] at h
      exact of_decide_eq_true h
/-- A mask of a power of two is a rest. -/
theorem mask_mod (t c : Int) (h : Pow c) : bitsDen 0 .u64 t (IntKind.u64.wrap (IntKind.i64.wrap (c - 1))) = t % 18446744073709551616 % c := by
  have key : ∀ k : Nat, k ≤ 8 → bitsDen 0 .u64 t (((2 ^ k - 1 : Nat)) : Int) = t % 18446744073709551616 % ((2 ^ k : Nat) : Int) := by
    intro k hk
    have e1 : (BitVec.ofInt 64 t).toNat = (t % 18446744073709551616).toNat := by
      rw [BitVec.toNat_ofInt]; rfl
    have hlt : 2 ^ k ≤ 256 := by
      calc 2 ^ k ≤ 2 ^ 8 := Nat.pow_le_pow_right (by omega) hk
        _ = 256 := rfl
    have hpos : 0 < 2 ^ k := Nat.pow_pos (by omega)
    have e2 : (BitVec.ofInt 64 ((2 ^ k - 1 : Nat) : Int)).toNat = 2 ^ k - 1 := by
      rw [BitVec.toNat_ofInt]; omega
    show IntKind.u64.wrap ((BitVec.ofInt 64 t &&& BitVec.ofInt 64 ((2 ^ k - 1 : Nat) : Int)).toNat : Int) = _
    rw [wrapU, BitVec.toNat_and, e1, e2, Nat.and_two_pow_sub_one_eq_mod]
    have h1 : 0 ≤ t % 18446744073709551616 := Int.emod_nonneg _ (by omega)
    generalize t % 18446744073709551616 = u at h1 ⊢
    obtain ⟨n, rfl⟩ : ∃ n : Nat, u = n := ⟨u.toNat, by omega⟩
    simp only [Int.toNat_natCast]
    have h2 : n % 2 ^ k < 2 ^ k := Nat.mod_lt _ hpos
    have h3 : ((n : Int) % ((2 ^ k : Nat) : Int)) = ((n % 2 ^ k : Nat) : Int) := rfl
    rw [h3]
    omega
  have w1 : IntKind.u64.wrap (IntKind.i64.wrap (c - 1)) = c - 1 := by
    rw [wrapU]
    unfold Pow at h
    rw [wrapS _ (by omega) (by omega)]
    omega
  rw [w1]
  unfold Pow at h
  rcases h with rfl | rfl | rfl | rfl | rfl | rfl | rfl | rfl
  · exact key 1 (by omega)
  · exact key 2 (by omega)
  · exact key 3 (by omega)
  · exact key 4 (by omega)
  · exact key 5 (by omega)
  · exact key 6 (by omega)
  · exact key 7 (by omega)
  · exact key 8 (by omega)
theorem slotsG_length (l : List Int) (a b c d m o s : Int) : (slotsG l a b c d m o s).length = d.toNat := by simp [slotsG]
theorem slotsG_step (l : List Int) (a b c m o s : Int) (d : Nat) : slotsG l a b c (d + 1 : Nat) m o s = slotsG l a b c d m o s ++ [l.getD (a + o + s * ((c + d) % m % b)).toNat 0] := by
  simp [slotsG, List.range_succ]
theorem slotsG_get (l : List Int) (a b c m o s : Int) (d j : Nat) (h : j < d) : (slotsG l a b c d m o s)[j]? = some (l.getD (a + o + s * ((c + j) % m % b)).toNat 0) := by
  simp [slotsG, h]
/-! what may be, as a condition -/
def powB (c : SI) : SB := .or (.eq c (.lit 2)) (.or (.eq c (.lit 4)) (.or (.eq c (.lit 8)) (.or (.eq c (.lit 16)) (.or (.eq c (.lit 32)) (.or (.eq c (.lit 64)) (.or (.eq c (.lit 128)) (.eq c (.lit 256))))))))
def rightB (k : Int) (at' size : SI) : SB := .and (.not (.lt at' (.lit 0))) (.and (.lt at' (.sub (.lit 65535) (.mul (.lit k) size))) (powB size))
def Right (k at' size : Int) : Prop := 0 ≤ at' ∧ at' < 65535 - k * size ∧ Pow size
theorem powB_den {G : Type} (ν : Env G) (c : SI) : (powB c).den ν = true ↔ Pow (c.den ν) := by
  simp only [powB, SB.den, SI.den, Pow, Bool.or_eq_true, beq_iff_eq]
theorem rightB_den {G : Type} (ν : Env G) (k : Int) (a c : SI) : (rightB k a c).den ν = true ↔ Right k (a.den ν) (c.den ν) := by
  simp only [rightB, SB.den, Right, Bool.and_eq_true, powB_den, Bool.not_eq_true', decide_eq_false_iff_not, decide_eq_true_eq]
  simp only [SI.den]
  constructor
  · rintro ⟨h1, h2, h3⟩; exact ⟨by omega, by omega, h3⟩
  · rintro ⟨h1, h2, h3⟩; exact ⟨by omega, by omega, h3⟩
theorem rightB_no {G : Type} (ν : Env G) (k : Int) (a c : SI) : (rightB k a c).den ν = false ↔ ¬ Right k (a.den ν) (c.den ν) := by
  rw [← rightB_den]; cases (rightB k a c).den ν <;> simp
theorem Pow.le {c : Int} (h : Pow c) : 2 ≤ c ∧ c ≤ 256 := by unfold Pow at h; omega
end Go.Proofs.Ytlmenjenkpnacaa
end

section
namespace Go.Proofs.Ytlmenjenkpnacaa
open Go Go.Sy Go.RowKit

def trueK (_ : Nat) (args : List SV) (pc : PC) (hp : Heap) : Option (List CLeaf) := match args with
  | [] => some [⟨false, .bool (.lit true), pc, hp⟩]
  | _ => none
theorem true_ok {G : Type} {O : Orac} {I : In G} {f : Nat} (hf : ∀ w, Calls Try.prog f #[] w fun e w' => e = .returned (.bool true) ∧ Below w.heap.size w w') (oo : OOK Try.prog O I) : OOK Try.prog (O.withCall f trueK) I := by
  refine withCall_ok oo ?_
  intro lo args pc hp cs h sz hsz B ν ρ w R hI hpc hw hl
  unfold trueK at h
  split at h
  · cases h
    exact pure_call' (v := .bool (.lit true)) hpc hw hl (List.mem_cons_self ..) (hf w)
  · cases h
end Go.Proofs.Ytlmenjenkpnacaa
end

section
namespace Go.Proofs.Ytlmenjenkpnacaa
open Go Go.Sy Go.RowKit

def oSm (P : Program) : Orac := ((noOrac.withOp (opSliceT P)).withOp (opAppendW P)).withOp (opLoadS P)
/-- all of a list's numbers lie in between -/
def rangeB (l : SL) (a b : Int) : SB := .gb 0 (.app 45 (.var 0) (.var 0) (.lit a) (.lit b) (.lit 0) (.lit 0) l) (.lit 0) (.lit 0)
/-- a walk that has ended -/
def overW (n j ty : Nat) : SBk := .cells [.int .i64 (.var (n + j)), .int .i64 (.var (n + j + 1)), .int .u64 (.var (n + j + 2)), .int .u64 (.var (n + j + 3)), .nilFunc, .bool (.lit false), .nilPtr, .nilFunc, .bool (.lit true), .int .i64 (.var (n + j + 4)), .int .u64 (.var (n + j + 5)), .nilSl, .nilSl] ty true
def ptrOf : SV → Nat
  | .ptr b _ => b
  | .sl b _ _ _ => b
  | _ => 0
def cellN (hp : Heap) (b k : Nat) : SV := match hget b hp with
  | some (.cells cs _ _) => (cs[k]?).getD .dead
  | _ => .dead
def setCell (b k : Nat) (v : SV) (hp : Heap) : Heap := match hget b hp with
  | some (.cells cs t x) => hset b (.cells (cs.set k v) t x) hp
  | _ => hp
def setList (b : Nat) (l : SL) (hp : Heap) : Heap := match hget b hp with
  | some (.row k _ c t) => hset b (.row k l c t) hp
  | _ => hp
def keepFr (ks : List Nat) (fr : List SV) : List SV := fr.zipIdx.map fun x => if ks.any (Nat.beq x.2) then x.1 else .dead
/-- What the frame leads to. -/
def insA (n : Nat) (l : List Nat) : List Nat := if l.any (Nat.beq n) then l else n :: l
def ptrs : List SV → List Nat → List Nat
  | [], ns => ns
  | .ptr b _ :: r, ns => ptrs r (insA b ns)
  | .sl b _ _ _ :: r, ns => ptrs r (insA b ns)
  | _ :: r, ns => ptrs r ns
def reachB (hp : Heap) (ns : List Nat) : List Nat := hp.foldl (fun ns x => if ns.any (Nat.beq x.1) then (match x.2 with | .cells cs _ _ => ptrs cs ns | _ => ns) else ns) ns
def reachK (hp : Heap) : Nat → List Nat → List Nat
  | 0, ns => ns
  | k + 1, ns => reachK hp k (reachB hp ns)
def reachL (L : Leaf) : Leaf := let ns := reachK L.hp L.hp.length (ptrs L.fr [])
  { L with hp := L.hp.filter fun x => ns.any (Nat.beq x.1) }
def qAt (l : List PC) (k : Nat) : PC := (l[k]?).getD []
def hdAt (l : List Tgt) (k : Nat) : Tgt := (l[k]?).getD ⟨.bad, [], [], []⟩
theorem pcAt {G : Type} {ν : Env G} {pc : PC} (h : pcDen ν pc) (k : Nat) {c : SB} {b : Bool} (hk : pc[k]? = some (c, b)) : c.den ν = b := h c b (List.mem_of_getElem? hk)
theorem lt_den {G : Type} {ν : Env G} {a c : SI} {b : Bool} (h : (SB.lt a c).den ν = b) : a.den ν < c.den ν ↔ b = true := by
  simp only [SB.den] at h
  rw [← h]
  exact decide_eq_true_iff.symm
theorem lt_of {G : Type} {ν : Env G} {a c : SI} {b : Bool} (h : a.den ν < c.den ν ↔ b = true) : (SB.lt a c).den ν = b := by
  simp only [SB.den]
  cases b
  · exact decide_eq_false (by simpa using h)
  · exact decide_eq_true (by simpa using h)
theorem range_den {ν : Env Gh} (hI : ν.I = inM) (l : SL) (a b : Int) : (rangeB l a b).den ν = true ↔ ∀ x ∈ l.den ν, a ≤ x ∧ x ≤ b := by
  simp only [rangeB, SB.den, SG.den, SI.den, hI, inM, xga]
  simp
theorem wu (x : Int) : IntKind.u64.wrap x = x % 18446744073709551616 := wrapU x
theorem one : (1 : Int).toNat = 1 := rfl
/-- A path turned, that is not met by any: all of it holds. -/
theorem bads_of {ν : Env Gh} {p : PC} (h : ∀ x ∈ p.map fun x => (x.1, !x.2), x.1.den ν ≠ x.2) : pcDen ν p := by
  intro c b hm
  have := h (c, !b) (List.mem_map.2 ⟨(c, b), hm, rfl⟩)
  revert this
  simp only
  cases c.den ν <;> cases b <;> simp
end Go.Proofs.Ytlmenjenkpnacaa
end

section
namespace Go.Proofs.Ytlmenjenkpnacaa
open Go Go.Sy Go.RowKit

def tSame : Tmpl := ⟨[.sl 0 (.var 0) (.len (.var 0)) (.var 1), .sl 1 (.var 2) (.len (.var 1)) (.var 3)], [(.lt (.var 0) (.lit 0), false), (.lt (.var 2) (.lit 0), false)], [(0, .view .u64 (.var 0) (.var 0)), (1, .view .u64 (.var 2) (.var 1))]⟩
def nSame : Nat := nmAt 4
def eSame (P : Program) : Leaf := capL P noOrac 20 4 tSame.args tSame.pc tSame.hp
def hSame (P : Program) : Leaf := hdFrom 6 (hdI nSame 5 0 (eSame P))
def pSame : PC := (.lt (.var (nSame + 0)) (.lit 0), false) :: (.eq (.len (.var 0)) (.len (.var 1)), true) :: tSame.pc
def gSame (P : Program) : List Tgt := [⟨.exit 0, (hSame P).fr, tSame.hp, [(eqX (.var 0) (.var 1), true)]⟩, ⟨.ret, deadFrom 5 (hSame P).fr, tSame.hp, [(eqX (.var 0) (.var 1), false)]⟩]
def bSame : PC := [(.eq (.len (.var 0)) (.len (.var 1)), false), (.lt (.var 0) (.lit 0), true), (.lt (.var 2) (.lit 0), true), (.lt (.lit 9223372036854775807) (.len (.var 0)), true)]
def sSame (P : Program) : Option (List SumT) := (codeX P noOrac LO7 SZ7 20 6000 0 (loopAt P 20 4) (hSame P).fr pSame tSame.hp).bind (sumsT P nSame LO7 SZ7 (⟨.normal, (hSame P).fr, tSame.hp, pSame⟩ :: gSame P))
def oSame (P : Program) : Orac := noOrac.withLoop 20 4 nSame (eSame P).fr tSame.hp (mkM nSame (gSame P) bSame)
end Go.Proofs.Ytlmenjenkpnacaa
end

section
namespace Go.Proofs.Ytlmenjenkpnacaa
open Go Go.Sy Go.RowKit

def sumsSame : List SumT := [
  ⟨.bad, 0, ⟨[], [], [], [], [], [], [], []⟩, [((.lt (.var (nSame + 0)) (.len (.var 1))), false), ((.lt (.var (nSame + 0)) (.len (.var 0))), true), ((.lt (.var (nSame + 0)) (.lit 0)), false), ((.eq (.len (.var 0)) (.len (.var 1))), true), ((.lt (.var 0) (.lit 0)), false), ((.lt (.var 2) (.lit 0)), false)]⟩,
  ⟨.ret, 1, ⟨[], [], [], [], [], [], [], []⟩, [((.eq (.nth (.var 0) (.var (nSame + 0))) (.nth (.var 1) (.var (nSame + 0)))), false), ((.lt (.var (nSame + 0)) (.len (.var 1))), true), ((.lt (.var (nSame + 0)) (.len (.var 0))), true), ((.lt (.var (nSame + 0)) (.lit 0)), false), ((.eq (.len (.var 0)) (.len (.var 1))), true), ((.lt (.var 0) (.lit 0)), false), ((.lt (.var 2) (.lit 0)), false)]⟩,
  ⟨.normal, 0, ⟨[], [(0, (.wrap .i64 (.add (.var (nSame + 0)) (.lit 1))))], [], [], [], [], [], []⟩, [((.eq (.nth (.var 0) (.var (nSame + 0))) (.nth (.var 1) (.var (nSame + 0)))), true), ((.lt (.var (nSame + 0)) (.len (.var 1))), true), ((.lt (.var (nSame + 0)) (.len (.var 0))), true), ((.lt (.var (nSame + 0)) (.lit 0)), false), ((.eq (.len (.var 0)) (.len (.var 1))), true), ((.lt (.var 0) (.lit 0)), false), ((.lt (.var 2) (.lit 0)), false)]⟩,
  ⟨.exit 0, 0, ⟨[], [(0, (.var (nSame + 0)))], [], [], [], [], [], []⟩, [((.lt (.var (nSame + 0)) (.len (.var 0))), false), ((.lt (.var (nSame + 0)) (.lit 0)), false), ((.eq (.len (.var 0)) (.len (.var 1))), true), ((.lt (.var 0) (.lit 0)), false), ((.lt (.var 2) (.lit 0)), false)]⟩]
def startSame : Mt := ⟨[], [(0, (.lit 0))], [], [], [], [], [], []⟩
def ouSame : List CLeaf := [
  ⟨false, (.bool (.lit false)), [((.eq (.len (.var 0)) (.len (.var 1))), false), ((.lt (.var 0) (.lit 0)), false), ((.lt (.var 2) (.lit 0)), false)], [(0, (.view .u64 (.var 0) (.var 0))), (1, (.view .u64 (.var 2) (.var 1)))]⟩,
  ⟨false, (.bool (.lit true)), [((.gb 0 (.app 2 (.app 1 (.var 0) (.var 0) (.lit 0) (.lit 0) (.lit 0) (.lit 0) (.var 0)) (.app 1 (.var 0) (.var 0) (.lit 0) (.lit 0) (.lit 0) (.lit 0) (.var 1)) (.lit 0) (.lit 0) (.lit 0) (.lit 0) .nil) (.lit 0) (.lit 0)), true), ((.eq (.len (.var 0)) (.len (.var 1))), true), ((.lt (.var 0) (.lit 0)), false), ((.lt (.var 2) (.lit 0)), false)], [(0, (.view .u64 (.var 0) (.var 0))), (1, (.view .u64 (.var 2) (.var 1)))]⟩,
  ⟨false, (.bool (.lit false)), [((.gb 0 (.app 2 (.app 1 (.var 0) (.var 0) (.lit 0) (.lit 0) (.lit 0) (.lit 0) (.var 0)) (.app 1 (.var 0) (.var 0) (.lit 0) (.lit 0) (.lit 0) (.lit 0) (.var 1)) (.lit 0) (.lit 0) (.lit 0) (.lit 0) .nil) (.lit 0) (.lit 0)), false), ((.eq (.len (.var 0)) (.len (.var 1))), true), ((.lt (.var 0) (.lit 0)), false), ((.lt (.var 2) (.lit 0)), false)], [(0, (.view .u64 (.var 0) (.var 0))), (1, (.view .u64 (.var 2) (.var 1)))]⟩,
  ⟨true, (.tup []), [((.lt (.lit 9223372036854775807) (.len (.var 0))), true), ((.eq (.len (.var 0)) (.len (.var 1))), true), ((.lt (.var 0) (.lit 0)), false), ((.lt (.var 2) (.lit 0)), false)], []⟩]
theorem bodySame : sSame Try.prog = some sumsSame := by kernel_rfl
theorem stSame : mAll nSame 0 0 Try.prog (eSame Try.prog).fr tSame.hp (hSame Try.prog).fr tSame.hp = some startSame := by kernel_rfl
theorem oneSame : (loopsAt Try.prog 20 4).length = 1 := by kernel_rfl
theorem runSame : runX Try.prog (oSame Try.prog) 20 tSame.args tSame.pc tSame.hp = some ouSame := by kernel_rfl
attribute [local irreducible] nmAt
theorem oSame_ok : OOK Try.prog (oSame Try.prog) inM := by
  have hb : ∀ {ν : Env Gh}, (∀ x ∈ bSame, x.1.den ν ≠ x.2) → (ν.l 0).length = (ν.l 1).length ∧ 0 ≤ ν.i 0 ∧ 0 ≤ ν.i 2 ∧ (ν.l 0).length ≤ 9223372036854775807 := by
    intro ν h
    simp only [bSame, bads_cons, SB.den, Bool.not_true, Bool.not_false, decide_eq_true_eq, decide_eq_false_iff_not, beq_iff_eq] at h
    simp only [SI.den, SL.den] at h
    omega
  have hp : ∀ {ν : Env Gh} {x : Vals Gh}, (∀ x ∈ bSame, x.1.den ν ≠ x.2) → 0 ≤ x.i 0 → pcDen (ν.at nSame x) pSame := by
    intro ν x h h0
    have := hb h
    have rf : RF nSame ν x (ν.at nSame x) := RF.self rfl
    simp only [pSame, tSame, pcDen_cons_iff, pcDen_nil_iff, and_true, SB.den, decide_eq_false_iff_not, beq_iff_eq]
    simp only [SI.den, SL.den, rf.i 0 (by decide), rf.io 0 (by decide), rf.io 2 (by decide), rf.lo 0 (by decide), rf.lo 1 (by decide)]
    omega
  refine loopT_ok pr noOrac_ok (rfl : nSame = nmAt 4) (by decide +kernel) oneSame (ghL []) bodySame stSame
    (fun ν x => 0 ≤ x.i 0 ∧ x.i 0 ≤ (ν.l 0).length ∧ ∀ j : Nat, (j : Int) < x.i 0 → (ν.l 0).getD j 0 = (ν.l 1).getD j 0) (fun ν x => ((ν.l 0).length - x.i 0).toNat) ?_ ?_ noOrac_ok
  · intro ν hI h
    have := hb h
    refine ⟨⟨by simp [startSame, Mt.vals, lkp, SI.den], by simp [startSame, Mt.vals, lkp, SI.den], fun j hj => ?_⟩, hp h (by simp [startSame, Mt.vals, lkp, SI.den]), by constructor <;> simp [startSame]⟩
    simp [startSame, Mt.vals, lkp, SI.den] at hj
    omega
  · intro t ht ν x ν2 hI h hJ _ rf hpc
    have := hb h
    obtain ⟨j1, j2, j3⟩ := hJ
    simp only [sumsSame, List.mem_cons, List.not_mem_nil, or_false] at ht
    rcases ht with rfl | rfl | rfl | rfl
    all_goals
      simp only [pcDen_cons_iff, SB.den, decide_eq_true_eq, decide_eq_false_iff_not, beq_iff_eq, beq_eq_false_iff_ne] at hpc
      simp only [SI.den, SL.den, rf.i 0 (by decide), rf.io 0 (by decide), rf.io 2 (by decide), rf.lo 0 (by decide), rf.lo 1 (by decide)] at hpc
    · show False
      omega
    · refine ⟨fun g hg => ?_, by constructor <;> simp⟩
      cases hg
      refine pcDen_one ?_
      have rf3 : ∀ y, RF nSame ν y (ν.at nSame y) := fun y => RF.self rfl
      rw [eqX_den ((rf3 _).I.trans hI)]
      simp only [SL.den, beq_eq_false_iff_ne, (rf3 _).lo 0 (by decide), (rf3 _).lo 1 (by decide)]
      intro e
      exact hpc.1 (by rw [e])
    · have e : (Mt.vals ⟨[], [(0, (.wrap .i64 (.add (.var (nSame + 0)) (.lit 1))))], [], [], [], [], [], []⟩ (ghL []) ν2).i 0 = x.i 0 + 1 := by
        simp only [Mt.vals, lkp, Nat.beq_refl, if_true, SI.den, rf.i 0 (by decide)]
        rw [wrapS _ (by omega) (by omega)]
      refine ⟨⟨by rw [e]; omega, by rw [e]; omega, fun j hj => ?_⟩, hp h (by rw [e]; omega), by rw [e]; omega, by constructor <;> simp⟩
      rw [e] at hj
      rcases Int.lt_or_le (j : Int) (x.i 0) with hlt | hlt
      · exact j3 j hlt
      · have e2 : (x.i 0).toNat = j := by omega
        have := hpc.1
        rwa [e2] at this
    · refine ⟨fun g hg => ?_, by constructor <;> simp⟩
      cases hg
      refine pcDen_one ?_
      have rf3 : ∀ y, RF nSame ν y (ν.at nSame y) := fun y => RF.self rfl
      rw [eqX_den ((rf3 _).I.trans hI)]
      simp only [SL.den, beq_iff_eq, (rf3 _).lo 0 (by decide), (rf3 _).lo 1 (by decide)]
      exact list_ext (by omega) (fun j hj => j3 j (by omega))
def kSame (P : Program) := sumK P tSame ouSame
theorem same_ok {O : Orac} (oo : OOK Try.prog O inM) : OOK Try.prog (O.withCallF 20 (kSame Try.prog)) inM := withCallF_ok oo (sum_ok pr oSame_ok runSame oo)
end Go.Proofs.Ytlmenjenkpnacaa
end

section
namespace Go.Proofs.Ytlmenjenkpnacaa
open Go Go.Sy Go.RowKit

def ouSNn : List CLeaf := [
  ⟨false, (.bool (.lit true)), [], []⟩]
def ouSNr : List CLeaf := [
  ⟨false, (.bool (.lit false)), [((.eq (.lit 0) (.len (.var 1))), false), ((.lt (.var 2) (.lit 0)), false)], [(1, (.view .u64 (.var 2) (.var 1)))]⟩,
  ⟨false, (.bool (.lit true)), [((.eq (.lit 0) (.len (.var 1))), true), ((.lt (.var 2) (.lit 0)), false)], [(1, (.view .u64 (.var 2) (.var 1)))]⟩]
def ouSNl : List CLeaf := [
  ⟨false, (.bool (.lit false)), [((.eq (.len (.var 0)) (.lit 0)), false), ((.lt (.var 0) (.lit 0)), false)], [(0, (.view .u64 (.var 0) (.var 0)))]⟩,
  ⟨true, (.tup []), [((.lt (.lit 0) (.len (.var 0))), true), ((.eq (.len (.var 0)) (.lit 0)), true), ((.lt (.var 0) (.lit 0)), false)], []⟩,
  ⟨false, (.bool (.lit true)), [((.lt (.lit 0) (.len (.var 0))), false), ((.eq (.len (.var 0)) (.lit 0)), true), ((.lt (.var 0) (.lit 0)), false)], [(0, (.view .u64 (.var 0) (.var 0)))]⟩]
def fSN : Nat := 20
theorem runSNn : runX Try.prog noOrac fSN [.nilSl, .nilSl] [] [] = some ouSNn := by kernel_rfl
theorem runSNr : runX Try.prog noOrac fSN [.nilSl, .sl 1 (.var 2) (.len (.var 1)) (.var 3)] [(.lt (.var 2) (.lit 0), false)] [(1, .view .u64 (.var 2) (.var 1))] = some ouSNr := by kernel_rfl
theorem runSNl : runX Try.prog noOrac fSN [.sl 0 (.var 0) (.len (.var 0)) (.var 1), .nilSl] [(.lt (.var 0) (.lit 0), false)] [(0, .view .u64 (.var 0) (.var 0))] = some ouSNl := by kernel_rfl
def lvs (l : List CLeaf) : List (Bool × SV × PC) := l.map fun c => (c.bad, c.v, c.pc)
theorem lvOf_of {o : Option (List CLeaf)} {l : List CLeaf} (h : o = some l) : lvOf o = some (lvs l) := by rw [h]; rfl
def envSN (a b c d : Int) (xs ys : List Int) : Env Gh := ⟨inM, fun _ => ghL [], fun | 0 => a | 1 => b | 2 => c | _ => d, fun _ => false, fun _ => .bool false, fun | 0 => xs | _ => ys, fun _ => ⟨0, 0, none⟩, fun _ => rfl⟩
def natSN (a b : Nat) : Nat → Nat | 0 => a | _ => b
theorem eqNSame : EqN Try.prog fSN := by
  intro w a b xs ys ha hb
  rcases ha with ⟨g, o, c, ea, hg, hm, hc⟩ | ⟨ea, hx⟩ <;> rcases hb with ⟨g', o', c', eb, hg', hm', hc'⟩ | ⟨eb, hy⟩
  · subst ea eb
    have hw : HW (baseOf w) (envSN o c o' c' xs ys) (natSN g g') tSame.hp w := by
      refine ((HW.empty _ _ _).addView (n := 1) (by simp) (by rw [baseOf_own]; show ¬ w.heap.size ≤ g'; omega) (by show (0 : Int) ≤ (o' : Int); omega) ?_).addView (n := 0) (by simp) (by rw [baseOf_own]; show ¬ w.heap.size ≤ g; omega) (by show (0 : Int) ≤ (o : Int); omega) ?_
      · intro j x hx
        have := hc' j x hx
        simpa [SI.den, envSN, baseOf, natSN] using this
      · intro j x hx
        have := hc j x hx
        simpa [SI.den, envSN, baseOf, natSN] using this
    have hpc : pcDen (envSN o c o' c' xs ys) tSame.pc := by
      simp [tSame, pcDen_cons_iff, pcDen_nil_iff, SB.den, SI.den, envSN]
    have e : (denL (envSN o c o' c' xs ys) (natSN g g') tSame.args).toArray = #[.slice (some ⟨g, o, none⟩) xs.length c, .slice (some ⟨g', o', none⟩) ys.length c'] := by
      simp [denL, SV.den, tSame, SI.den, SL.den, envSN, natSN]
    rw [← e]
    refine lv_calls pr oSame_ok (lvOf_of runSame) w _ _ _ rfl hpc hw ?_
    intro x hx ν' ρ' hag hp
    have l0 : ν'.l 0 = xs := hag.l 0 (out_LO (by omega))
    have l1 : ν'.l 1 = ys := hag.l 1 (out_LO (by omega))
    have hI : ν'.I = inM := hag.I
    clear hag
    simp only [lvs, ouSame, List.map_cons, List.map_nil, List.mem_cons, List.not_mem_nil, or_false] at hx
    have h2 : ∀ l m : SL, (SB.gb 0 (.app 2 (.app 1 (.var 0) (.var 0) (.lit 0) (.lit 0) (.lit 0) (.lit 0) l) (.app 1 (.var 0) (.var 0) (.lit 0) (.lit 0) (.lit 0) (.lit 0) m) (.lit 0) (.lit 0) (.lit 0) (.lit 0) .nil) (.lit 0) (.lit 0)).den ν' = (l.den ν' == m.den ν') := fun l m => by
      have x1 : ∀ l : SL, (SG.app 1 (.var 0) (.var 0) (.lit 0) (.lit 0) (.lit 0) (.lit 0) l).den ν' = ghL (l.den ν') := fun l => lsX_den hI l
      simp only [SB.den]
      rw [app2_den hI, x1, x1, hI, inM_gb, ghL_l, ghL_l]
    rcases hx with rfl | rfl | rfl | rfl
    · simp only [pcDen_cons_iff, SB.den, beq_eq_false_iff_ne] at hp
      simp only [SI.den, SL.den, l0, l1] at hp
      refine ⟨rfl, fun w' hb => ⟨?_, hb⟩⟩
      have : (xs == ys) = false := beq_eq_false_iff_ne.2 (fun e => hp.1 (by rw [e]))
      rw [this]; rfl
    · have hq := pcAt hp 0 rfl
      rw [h2] at hq
      simp only [SL.den, l0, l1] at hq
      refine ⟨rfl, fun w' hb => ⟨?_, hb⟩⟩
      rw [hq]; rfl
    · have hq := pcAt hp 0 rfl
      rw [h2] at hq
      simp only [SL.den, l0, l1] at hq
      refine ⟨rfl, fun w' hb => ⟨?_, hb⟩⟩
      rw [hq]; rfl
    · have hq := lt_den (pcAt hp 0 rfl)
      simp only [SI.den, SL.den, l0, iff_true] at hq
      omega
  · subst ea eb hy
    have hw : HW (baseOf w) (envSN o c 0 0 xs []) (natSN g 0) [(0, .view .u64 (.var 0) (.var 0))] w := by
      refine (HW.empty _ _ _).addView (n := 0) (by simp) (by rw [baseOf_own]; show ¬ w.heap.size ≤ g; omega) (by show (0 : Int) ≤ (o : Int); omega) ?_
      intro j x hx
      have := hc j x hx
      simpa [SI.den, envSN, baseOf, natSN] using this
    have hpc : pcDen (envSN o c 0 0 xs []) [(.lt (.var 0) (.lit 0), false)] := by
      simp [pcDen_cons_iff, pcDen_nil_iff, SB.den, SI.den, envSN]
    have e : (denL (envSN o c 0 0 xs []) (natSN g 0) [.sl 0 (.var 0) (.len (.var 0)) (.var 1), .nilSl]).toArray = #[.slice (some ⟨g, o, none⟩) xs.length c, .slice none 0 0] := by
      simp [denL, SV.den, SI.den, SL.den, envSN, natSN]
    rw [← e]
    refine lv_calls pr noOrac_ok (lvOf_of runSNl) w _ _ _ rfl hpc hw ?_
    intro x hx ν' ρ' hag hp
    have l0 : ν'.l 0 = xs := hag.l 0 (out_LO (by omega))
    clear hag
    simp only [lvs, ouSNl, List.map_cons, List.map_nil, List.mem_cons, List.not_mem_nil, or_false] at hx
    repeat' (rcases hx with rfl | hx)
    all_goals (try subst hx)
    all_goals
      simp only [pcDen_cons_iff, SB.den, beq_eq_false_iff_ne, beq_iff_eq, decide_eq_true_eq, decide_eq_false_iff_not] at hp
      simp only [SI.den, SL.den, l0] at hp
      first
        | (exfalso; omega)
        | (refine ⟨rfl, fun w' hb => ⟨?_, hb⟩⟩
           cases xs with
           | nil => first | rfl | (exfalso; simp at hp)
           | cons z zs => first | rfl | (exfalso; simp at hp; done) | (exfalso; simp only [List.length_cons] at hp; omega))
  · subst ea eb hx
    have hw : HW (baseOf w) (envSN 0 0 o' c' [] ys) (natSN 0 g') [(1, .view .u64 (.var 2) (.var 1))] w := by
      refine (HW.empty _ _ _).addView (n := 1) (by simp) (by rw [baseOf_own]; show ¬ w.heap.size ≤ g'; omega) (by show (0 : Int) ≤ (o' : Int); omega) ?_
      intro j x hx
      have := hc' j x hx
      simpa [SI.den, envSN, baseOf, natSN] using this
    have hpc : pcDen (envSN 0 0 o' c' [] ys) [(.lt (.var 2) (.lit 0), false)] := by
      simp [pcDen_cons_iff, pcDen_nil_iff, SB.den, SI.den, envSN]
    have e : (denL (envSN 0 0 o' c' [] ys) (natSN 0 g') [.nilSl, .sl 1 (.var 2) (.len (.var 1)) (.var 3)]).toArray = #[.slice none 0 0, .slice (some ⟨g', o', none⟩) ys.length c'] := by
      simp [denL, SV.den, SI.den, SL.den, envSN, natSN]
    rw [← e]
    refine lv_calls pr noOrac_ok (lvOf_of runSNr) w _ _ _ rfl hpc hw ?_
    intro x hx ν' ρ' hag hp
    have l1 : ν'.l 1 = ys := hag.l 1 (out_LO (by omega))
    clear hag
    simp only [lvs, ouSNr, List.map_cons, List.map_nil, List.mem_cons, List.not_mem_nil, or_false] at hx
    repeat' (rcases hx with rfl | hx)
    all_goals (try subst hx)
    all_goals
      simp only [pcDen_cons_iff, SB.den, beq_eq_false_iff_ne, beq_iff_eq, decide_eq_true_eq, decide_eq_false_iff_not] at hp
      simp only [SI.den, SL.den, l1] at hp
      first
        | (exfalso; omega)
        | (refine ⟨rfl, fun w' hb => ⟨?_, hb⟩⟩
           cases ys with
           | nil => first | rfl | (exfalso; simp at hp)
           | cons z zs => first | rfl | (exfalso; simp at hp; done) | (exfalso; simp only [List.length_cons] at hp; omega))
  · subst ea eb hx hy
    have e : (denL (envSN 0 0 0 0 [] []) (natSN 0 0) [.nilSl, .nilSl]).toArray = #[.slice none 0 0, .slice none 0 0] := by
      simp [denL, SV.den]
    rw [← e]
    refine lv_calls pr noOrac_ok (lvOf_of runSNn) w _ _ _ rfl (pcDen_nil _) (HW.empty _ _ _) ?_
    intro x hx ν' ρ' hag hp
    simp only [lvs, ouSNn, List.map_cons, List.map_nil, List.mem_cons, List.not_mem_nil, or_false] at hx
    subst hx
    exact ⟨rfl, fun w' hb => ⟨rfl, hb⟩⟩
theorem sameN_ok {O : Orac} (oo : OOK Try.prog O inM) : OOK Try.prog (O.withCallF fSN (eqNK Try.prog)) inM := withCallF_ok oo (eqN_ok oo eqNSame)
end Go.Proofs.Ytlmenjenkpnacaa
end
