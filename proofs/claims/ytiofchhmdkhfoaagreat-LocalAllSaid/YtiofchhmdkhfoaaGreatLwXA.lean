/- What the executor asks of the program: the order of evaluation is drawn, and no function is named as the runtime's count of goroutines. -/
import Derived.Test.YtiofchhmdkhfoaaGreatSyXD
import Derived.KernelRfl
import Derived.Test.YtiofchhmdkhfoaaGreatProg
import Derived.Test.YtiofchhmdkhfoaaGreatSyXC
import Derived.Test.YtiofchhmdkhfoaaGreatSyXF
import Derived.Test.YtiofchhmdkhfoaaGreatSyXG
set_option linter.unusedVariables false
set_option linter.unusedSimpArgs false

section
namespace Go.Proofs.YtiofchhmdkhfoaaGreat
open Go Go.Sy

theorem mixed : Tryz.prog.follows .mixedOrders = true := by kernel_rfl
theorem ng : ∀ (f : Nat) (fn : Func), Tryz.prog.funcs[f]? = some fn → (fn.name == "runtime.NumGoroutine") = false := by
  have h : Tryz.prog.funcs.all (fun fn => !(fn.name == "runtime.NumGoroutine")) = true := by kernel_rfl
  intro f fn hf
  have := Array.all_eq_true'.1 h fn (Array.mem_of_getElem? hf)
  simpa using this
theorem pr : PR Tryz.prog := ⟨mixed, ng⟩

theorem own : ownKnob Tryz.prog.godebug = none := by kernel_rfl

/-- Numbers, lists; no ghost. -/
def envOf (i : Nat → Int) (b : Nat → Bool) (l : Nat → List Int) (e : Nat → Addr) : Env Unit := ⟨In.none, fun _ => (), i, b, fun _ => .bool false, l, e, fun _ => rfl⟩
def noAddr : Nat → Addr := fun _ => ⟨0, 0, none⟩
end Go.Proofs.YtiofchhmdkhfoaaGreat
end

section
namespace Go.Proofs.YtiofchhmdkhfoaaGreat
open Go Go.Sy

def sgnB : List Char := List.map Char.ofNat [102,101,50,98,102,53,98,54,57,56,100,98,53,50,97,100,101,49,52,52,100,49,100,97,54,56,100,51,99,52,100,101,99,53,98,50,102,97,51,53,56,101,52,49,54,99,54,50,100,97,51,52,50,57,52,56,50,52,100,97,100,51,53,50]
def sgnR : List Char := List.map Char.ofNat [97,116,32,99,111,97,99,104,121,97,114,100,47,99,111,97,99,104,121,97,114,100,108,97,119,49,51,46,76,111,99,97,108,65,108,108]
theorem sign : Tryz.prog.initOrder = String.ofList (signOf sgnB sgnR) := by kernel_rfl
theorem words : behindMainWord (wordsSigns Tryz.prog.initOrder.toList) = sgnC :: wordsSigns sgnR := words_of sign (by decide +kernel) (by decide +kernel)
theorem facts : ProgFacts Tryz.prog where
  laid := by kernel_rfl
  rowed := by kernel_rfl
  stops := by kernel_rfl
  knobs := by kernel_rfl
  keys := by kernel_rfl
  heard := by kernel_rfl
  enter := mayEnter_of words (by kernel_rfl) (by kernel_rfl) (by kernel_rfl)
  final := liftsFinal_of words
  make := make_of words
end Go.Proofs.YtiofchhmdkhfoaaGreat
end

section
namespace Go.Proofs.YtiofchhmdkhfoaaGreat
open Go Go.Sy Go.RowKit

theorem wrapS (x : Int) (h1 : -9223372036854775808 ≤ x) (h2 : x ≤ 9223372036854775807) : IntKind.i64.wrap x = x := by
  rw [IntKind.wrap_i64]; omega
theorem wrapU (x : Int) : IntKind.u64.wrap x = x % 18446744073709551616 := by
  rw [IntKind.wrap_u64]
theorem list_ext {xs ys : List Int} (hl : xs.length = ys.length) (h : ∀ j : Nat, (j : Int) < xs.length → xs.getD j 0 = ys.getD j 0) : xs = ys := by
  refine List.ext_getElem hl fun j h1 h2 => ?_
  have := h j (by omega)
  simpa [List.getD_eq_getElem?_getD, h1, h2] using this
theorem bits_all : (List.range 257).all (fun n => decide (n < 2) || (decide (bitsDen 0 .i64 n (IntKind.i64.wrap (n - 1)) = 0) == (n == 2 || n == 4 || n == 8 || n == 16 || n == 32 || n == 64 || n == 128 || n == 256))) = true := by decide +kernel
/-- The sizes that may be. -/
def Pow (c : Int) : Prop := c = 2 ∨ c = 4 ∨ c = 8 ∨ c = 16 ∨ c = 32 ∨ c = 64 ∨ c = 128 ∨ c = 256
theorem bits_iff (c : Int) (h1 : 2 ≤ c) (h2 : c ≤ 256) : bitsDen 0 .i64 c (IntKind.i64.wrap (c - 1)) = 0 ↔ Pow c := by
  obtain ⟨n, rfl⟩ : ∃ n : Nat, c = n := ⟨c.toNat, by omega⟩
  have h := List.all_eq_true.1 bits_all n (List.mem_range.2 (by omega))
  simp only [Bool.or_eq_true, decide_eq_true_eq, beq_iff_eq] at h
  rcases h with h | h
  · omega
  · unfold Pow
    constructor
    · intro h3
      have h4 : decide (bitsDen 0 .i64 (n : Int) (IntKind.i64.wrap ((n : Int) - 1)) = 0) = true := decide_eq_true h3
      rw [h4] at h
      have := h.symm
      simp only [Bool.or_eq_true, beq_iff_eq] at this
      omega
    · intro h3
      have : (n == 2 || n == 4 || n == 8 || n == 16 || n == 32 || n == 64 || n == 128 || n == 256) = true := by
        simp only [Bool.or_eq_true, beq_iff_eq]; omega
      rw [this] at h
      exact of_decide_eq_true h
/-- A mask of a power of two is a rest. -/
theorem mask_mod (t c : Int) (h : Pow c) : bitsDen 0 .u64 t (IntKind.u64.wrap (IntKind.i64.wrap (c - 1))) = t % 18446744073709551616 % c := by
  have key : ∀ k : Nat, k ≤ 8 → bitsDen 0 .u64 t (((2 ^ k - 1 : Nat)) : Int) = t % 18446744073709551616 % ((2 ^ k : Nat) : Int) := by
    intro k hk
    have e1 : (BitVec.ofInt 64 t).toNat = (t % 18446744073709551616).toNat := by
      rw [BitVec.toNat_ofInt]; rfl
    have hlt : 2 ^ k ≤ 256 := by
      calc 2 ^ k ≤ 2 ^ 8 := Nat.pow_le_pow_right (by omega) hk
        _ = 256 := rfl
    have hpos : 0 < 2 ^ k := Nat.pow_pos (by omega)
    have e2 : (BitVec.ofInt 64 ((2 ^ k - 1 : Nat) : Int)).toNat = 2 ^ k - 1 := by
      rw [BitVec.toNat_ofInt]; omega
    show IntKind.u64.wrap ((BitVec.ofInt 64 t &&& BitVec.ofInt 64 ((2 ^ k - 1 : Nat) : Int)).toNat : Int) = _
    rw [wrapU, BitVec.toNat_and, e1, e2, Nat.and_two_pow_sub_one_eq_mod]
    have h1 : 0 ≤ t % 18446744073709551616 := Int.emod_nonneg _ (by omega)
    generalize t % 18446744073709551616 = u at h1 ⊢
    obtain ⟨n, rfl⟩ : ∃ n : Nat, u = n := ⟨u.toNat, by omega⟩
    simp only [Int.toNat_natCast]
    have h2 : n % 2 ^ k < 2 ^ k := Nat.mod_lt _ hpos
    have h3 : ((n : Int) % ((2 ^ k : Nat) : Int)) = ((n % 2 ^ k : Nat) : Int) := rfl
    rw [h3]
    omega
  have w1 : IntKind.u64.wrap (IntKind.i64.wrap (c - 1)) = c - 1 := by
    rw [wrapU]
    unfold Pow at h
    rw [wrapS _ (by omega) (by omega)]
    omega
  rw [w1]
  unfold Pow at h
  rcases h with rfl | rfl | rfl | rfl | rfl | rfl | rfl | rfl
  · exact key 1 (by omega)
  · exact key 2 (by omega)
  · exact key 3 (by omega)
  · exact key 4 (by omega)
  · exact key 5 (by omega)
  · exact key 6 (by omega)
  · exact key 7 (by omega)
  · exact key 8 (by omega)
theorem slotsG_length (l : List Int) (a b c d m o s : Int) : (slotsG l a b c d m o s).length = d.toNat := by simp [slotsG]
theorem slotsG_step (l : List Int) (a b c m o s : Int) (d : Nat) : slotsG l a b c (d + 1 : Nat) m o s = slotsG l a b c d m o s ++ [l.getD (a + o + s * ((c + d) % m % b)).toNat 0] := by
  simp [slotsG, List.range_succ]
theorem slotsG_get (l : List Int) (a b c m o s : Int) (d j : Nat) (h : j < d) : (slotsG l a b c d m o s)[j]? = some (l.getD (a + o + s * ((c + j) % m % b)).toNat 0) := by
  simp [slotsG, h]
/-! what may be, as a condition -/
def powB (c : SI) : SB := .or (.eq c (.lit 2)) (.or (.eq c (.lit 4)) (.or (.eq c (.lit 8)) (.or (.eq c (.lit 16)) (.or (.eq c (.lit 32)) (.or (.eq c (.lit 64)) (.or (.eq c (.lit 128)) (.eq c (.lit 256))))))))
def rightB (k : Int) (at' size : SI) : SB := .and (.not (.lt at' (.lit 0))) (.and (.lt at' (.sub (.lit 65535) (.mul (.lit k) size))) (powB size))
def Right (k at' size : Int) : Prop := 0 ≤ at' ∧ at' < 65535 - k * size ∧ Pow size
theorem powB_den {G : Type} (ν : Env G) (c : SI) : (powB c).den ν = true ↔ Pow (c.den ν) := by
  simp only [powB, SB.den, SI.den, Pow, Bool.or_eq_true, beq_iff_eq]
theorem rightB_den {G : Type} (ν : Env G) (k : Int) (a c : SI) : (rightB k a c).den ν = true ↔ Right k (a.den ν) (c.den ν) := by
  simp only [rightB, SB.den, Right, Bool.and_eq_true, powB_den, Bool.not_eq_true', decide_eq_false_iff_not, decide_eq_true_eq]
  simp only [SI.den]
  constructor
  · rintro ⟨h1, h2, h3⟩; exact ⟨by omega, by omega, h3⟩
  · rintro ⟨h1, h2, h3⟩; exact ⟨by omega, by omega, h3⟩
theorem rightB_no {G : Type} (ν : Env G) (k : Int) (a c : SI) : (rightB k a c).den ν = false ↔ ¬ Right k (a.den ν) (c.den ν) := by
  rw [← rightB_den]; cases (rightB k a c).den ν <;> simp
theorem Pow.le {c : Int} (h : Pow c) : 2 ≤ c ∧ c ≤ 256 := by unfold Pow at h; omega
end Go.Proofs.YtiofchhmdkhfoaaGreat
end

section
namespace Go.Proofs.YtiofchhmdkhfoaaGreat
open Go Go.Sy Go.RowKit

def trueK (_ : Nat) (args : List SV) (pc : PC) (hp : Heap) : Option (List CLeaf) := match args with
  | [] => some [⟨false, .bool (.lit true), pc, hp⟩]
  | _ => none
theorem true_ok {G : Type} {O : Orac} {I : In G} {f : Nat} (hf : ∀ w, Calls Tryz.prog f #[] w fun e w' => e = .returned (.bool true) ∧ Below w.heap.size w w') (oo : OOK Tryz.prog O I) : OOK Tryz.prog (O.withCall f trueK) I := by
  refine withCall_ok oo ?_
  intro lo args pc hp cs h sz hsz B ν ρ w R hI hpc hw hl
  unfold trueK at h
  split at h
  · cases h
    exact pure_call' (v := .bool (.lit true)) hpc hw hl (List.mem_cons_self ..) (hf w)
  · cases h
end Go.Proofs.YtiofchhmdkhfoaaGreat
end

section
namespace Go.Proofs.YtiofchhmdkhfoaaGreat
open Go Go.Sy Go.RowKit

def oSm (P : Program) : Orac := ((noOrac.withOp (opSliceT P)).withOp (opAppendW P)).withOp (opLoadS P)
/-- all of a list's numbers lie in between -/
def rangeB (l : SL) (a b : Int) : SB := .gb 0 (.app 45 (.var 0) (.var 0) (.lit a) (.lit b) (.lit 0) (.lit 0) l) (.lit 0) (.lit 0)
/-- a walk that has ended -/
def overW (n j ty : Nat) : SBk := .cells [.int .i64 (.var (n + j)), .int .i64 (.var (n + j + 1)), .int .u64 (.var (n + j + 2)), .int .u64 (.var (n + j + 3)), .nilFunc, .bool (.lit false), .nilPtr, .nilFunc, .bool (.lit true), .int .i64 (.var (n + j + 4)), .int .u64 (.var (n + j + 5)), .nilSl, .nilSl] ty true
def ptrOf : SV → Nat
  | .ptr b _ => b
  | .sl b _ _ _ => b
  | _ => 0
def cellN (hp : Heap) (b k : Nat) : SV := match hget b hp with
  | some (.cells cs _ _) => (cs[k]?).getD .dead
  | _ => .dead
def setCell (b k : Nat) (v : SV) (hp : Heap) : Heap := match hget b hp with
  | some (.cells cs t x) => hset b (.cells (cs.set k v) t x) hp
  | _ => hp
def setList (b : Nat) (l : SL) (hp : Heap) : Heap := match hget b hp with
  | some (.row k _ c t) => hset b (.row k l c t) hp
  | _ => hp
def keepFr (ks : List Nat) (fr : List SV) : List SV := fr.zipIdx.map fun x => if ks.any (Nat.beq x.2) then x.1 else .dead
/-- What the frame leads to. -/
def insA (n : Nat) (l : List Nat) : List Nat := if l.any (Nat.beq n) then l else n :: l
def ptrs : List SV → List Nat → List Nat
  | [], ns => ns
  | .ptr b _ :: r, ns => ptrs r (insA b ns)
  | .sl b _ _ _ :: r, ns => ptrs r (insA b ns)
  | _ :: r, ns => ptrs r ns
def reachB (hp : Heap) (ns : List Nat) : List Nat := hp.foldl (fun ns x => if ns.any (Nat.beq x.1) then (match x.2 with | .cells cs _ _ => ptrs cs ns | _ => ns) else ns) ns
def reachK (hp : Heap) : Nat → List Nat → List Nat
  | 0, ns => ns
  | k + 1, ns => reachK hp k (reachB hp ns)
def reachL (L : Leaf) : Leaf := let ns := reachK L.hp L.hp.length (ptrs L.fr [])
  { L with hp := L.hp.filter fun x => ns.any (Nat.beq x.1) }
def qAt (l : List PC) (k : Nat) : PC := (l[k]?).getD []
def hdAt (l : List Tgt) (k : Nat) : Tgt := (l[k]?).getD ⟨.bad, [], [], []⟩
theorem pcAt {G : Type} {ν : Env G} {pc : PC} (h : pcDen ν pc) (k : Nat) {c : SB} {b : Bool} (hk : pc[k]? = some (c, b)) : c.den ν = b := h c b (List.mem_of_getElem? hk)
theorem lt_den {G : Type} {ν : Env G} {a c : SI} {b : Bool} (h : (SB.lt a c).den ν = b) : a.den ν < c.den ν ↔ b = true := by
  simp only [SB.den] at h
  rw [← h]
  exact decide_eq_true_iff.symm
theorem lt_of {G : Type} {ν : Env G} {a c : SI} {b : Bool} (h : a.den ν < c.den ν ↔ b = true) : (SB.lt a c).den ν = b := by
  simp only [SB.den]
  cases b
  · exact decide_eq_false (by simpa using h)
  · exact decide_eq_true (by simpa using h)
theorem range_den {ν : Env Gh} (hI : ν.I = inM) (l : SL) (a b : Int) : (rangeB l a b).den ν = true ↔ ∀ x ∈ l.den ν, a ≤ x ∧ x ≤ b := by
  simp only [rangeB, SB.den, SG.den, SI.den, hI, inM, xga]
  simp
theorem wu (x : Int) : IntKind.u64.wrap x = x % 18446744073709551616 := wrapU x
theorem one : (1 : Int).toNat = 1 := rfl
/-- A path turned, that is not met by any: all of it holds. -/
theorem bads_of {ν : Env Gh} {p : PC} (h : ∀ x ∈ p.map fun x => (x.1, !x.2), x.1.den ν ≠ x.2) : pcDen ν p := by
  intro c b hm
  have := h (c, !b) (List.mem_map.2 ⟨(c, b), hm, rfl⟩)
  revert this
  simp only
  cases c.den ν <;> cases b <;> simp
end Go.Proofs.YtiofchhmdkhfoaaGreat
end

section
namespace Go.Proofs.YtiofchhmdkhfoaaGreat
open Go Go.Sy Go.RowKit

def tSame : Tmpl := ⟨[.sl 0 (.var 0) (.len (.var 0)) (.var 1), .sl 1 (.var 2) (.len (.var 1)) (.var 3)], [(.lt (.var 0) (.lit 0), false), (.lt (.var 2) (.lit 0), false)], [(0, .view .u64 (.var 0) (.var 0)), (1, .view .u64 (.var 2) (.var 1))]⟩
def nSame : Nat := nmAt 4
def eSame (P : Program) : Leaf := capL P noOrac 10 4 tSame.args tSame.pc tSame.hp
def hSame (P : Program) : Leaf := hdFrom 6 (hdI nSame 5 0 (eSame P))
def pSame : PC := (.lt (.var (nSame + 0)) (.lit 0), false) :: (.eq (.len (.var 0)) (.len (.var 1)), true) :: tSame.pc
def gSame (P : Program) : List Tgt := [⟨.exit 0, (hSame P).fr, tSame.hp, [(eqX (.var 0) (.var 1), true)]⟩, ⟨.ret, deadFrom 5 (hSame P).fr, tSame.hp, [(eqX (.var 0) (.var 1), false)]⟩]
def bSame : PC := [(.eq (.len (.var 0)) (.len (.var 1)), false), (.lt (.var 0) (.lit 0), true), (.lt (.var 2) (.lit 0), true), (.lt (.lit 9223372036854775807) (.len (.var 0)), true)]
def sSame (P : Program) : Option (List SumT) := (codeX P noOrac LO7 SZ7 10 6000 0 (loopAt P 10 4) (hSame P).fr pSame tSame.hp).bind (sumsT P nSame LO7 SZ7 (⟨.normal, (hSame P).fr, tSame.hp, pSame⟩ :: gSame P))
def oSame (P : Program) : Orac := noOrac.withLoop 10 4 nSame (eSame P).fr tSame.hp (mkM nSame (gSame P) bSame)
end Go.Proofs.YtiofchhmdkhfoaaGreat
end

section
namespace Go.Proofs.YtiofchhmdkhfoaaGreat
open Go Go.Sy Go.RowKit

def sumsSame : List SumT := [
  ⟨.bad, 0, ⟨[], [], [], [], [], [], [], []⟩, [((.lt (.var (nSame + 0)) (.len (.var 1))), false), ((.lt (.var (nSame + 0)) (.len (.var 0))), true), ((.lt (.var (nSame + 0)) (.lit 0)), false), ((.eq (.len (.var 0)) (.len (.var 1))), true), ((.lt (.var 0) (.lit 0)), false), ((.lt (.var 2) (.lit 0)), false)]⟩,
  ⟨.ret, 1, ⟨[], [], [], [], [], [], [], []⟩, [((.eq (.nth (.var 0) (.var (nSame + 0))) (.nth (.var 1) (.var (nSame + 0)))), false), ((.lt (.var (nSame + 0)) (.len (.var 1))), true), ((.lt (.var (nSame + 0)) (.len (.var 0))), true), ((.lt (.var (nSame + 0)) (.lit 0)), false), ((.eq (.len (.var 0)) (.len (.var 1))), true), ((.lt (.var 0) (.lit 0)), false), ((.lt (.var 2) (.lit 0)), false)]⟩,
  ⟨.normal, 0, ⟨[], [(0, (.wrap .i64 (.add (.var (nSame + 0)) (.lit 1))))], [], [], [], [], [], []⟩, [((.eq (.nth (.var 0) (.var (nSame + 0))) (.nth (.var 1) (.var (nSame + 0)))), true), ((.lt (.var (nSame + 0)) (.len (.var 1))), true), ((.lt (.var (nSame + 0)) (.len (.var 0))), true), ((.lt (.var (nSame + 0)) (.lit 0)), false), ((.eq (.len (.var 0)) (.len (.var 1))), true), ((.lt (.var 0) (.lit 0)), false), ((.lt (.var 2) (.lit 0)), false)]⟩,
  ⟨.exit 0, 0, ⟨[], [(0, (.var (nSame + 0)))], [], [], [], [], [], []⟩, [((.lt (.var (nSame + 0)) (.len (.var 0))), false), ((.lt (.var (nSame + 0)) (.lit 0)), false), ((.eq (.len (.var 0)) (.len (.var 1))), true), ((.lt (.var 0) (.lit 0)), false), ((.lt (.var 2) (.lit 0)), false)]⟩]
def startSame : Mt := ⟨[], [(0, (.lit 0))], [], [], [], [], [], []⟩
def ouSame : List CLeaf := [
  ⟨false, (.bool (.lit false)), [((.eq (.len (.var 0)) (.len (.var 1))), false), ((.lt (.var 0) (.lit 0)), false), ((.lt (.var 2) (.lit 0)), false)], [(0, (.view .u64 (.var 0) (.var 0))), (1, (.view .u64 (.var 2) (.var 1)))]⟩,
  ⟨false, (.bool (.lit true)), [((.gb 0 (.app 2 (.app 1 (.var 0) (.var 0) (.lit 0) (.lit 0) (.lit 0) (.lit 0) (.var 0)) (.app 1 (.var 0) (.var 0) (.lit 0) (.lit 0) (.lit 0) (.lit 0) (.var 1)) (.lit 0) (.lit 0) (.lit 0) (.lit 0) .nil) (.lit 0) (.lit 0)), true), ((.eq (.len (.var 0)) (.len (.var 1))), true), ((.lt (.var 0) (.lit 0)), false), ((.lt (.var 2) (.lit 0)), false)], [(0, (.view .u64 (.var 0) (.var 0))), (1, (.view .u64 (.var 2) (.var 1)))]⟩,
  ⟨false, (.bool (.lit false)), [((.gb 0 (.app 2 (.app 1 (.var 0) (.var 0) (.lit 0) (.lit 0) (.lit 0) (.lit 0) (.var 0)) (.app 1 (.var 0) (.var 0) (.lit 0) (.lit 0) (.lit 0) (.lit 0) (.var 1)) (.lit 0) (.lit 0) (.lit 0) (.lit 0) .nil) (.lit 0) (.lit 0)), false), ((.eq (.len (.var 0)) (.len (.var 1))), true), ((.lt (.var 0) (.lit 0)), false), ((.lt (.var 2) (.lit 0)), false)], [(0, (.view .u64 (.var 0) (.var 0))), (1, (.view .u64 (.var 2) (.var 1)))]⟩,
  ⟨true, (.tup []), [((.lt (.lit 9223372036854775807) (.len (.var 0))), true), ((.eq (.len (.var 0)) (.len (.var 1))), true), ((.lt (.var 0) (.lit 0)), false), ((.lt (.var 2) (.lit 0)), false)], []⟩]
theorem bodySame : sSame Tryz.prog = some sumsSame := by kernel_rfl
theorem stSame : mAll nSame 0 0 Tryz.prog (eSame Tryz.prog).fr tSame.hp (hSame Tryz.prog).fr tSame.hp = some startSame := by kernel_rfl
theorem oneSame : (loopsAt Tryz.prog 10 4).length = 1 := by kernel_rfl
theorem runSame : runX Tryz.prog (oSame Tryz.prog) 10 tSame.args tSame.pc tSame.hp = some ouSame := by kernel_rfl
attribute [local irreducible] nmAt
theorem oSame_ok : OOK Tryz.prog (oSame Tryz.prog) inM := by
  have hb : ∀ {ν : Env Gh}, (∀ x ∈ bSame, x.1.den ν ≠ x.2) → (ν.l 0).length = (ν.l 1).length ∧ 0 ≤ ν.i 0 ∧ 0 ≤ ν.i 2 ∧ (ν.l 0).length ≤ 9223372036854775807 := by
    intro ν h
    simp only [bSame, bads_cons, SB.den, Bool.not_true, Bool.not_false, decide_eq_true_eq, decide_eq_false_iff_not, beq_iff_eq] at h
    simp only [SI.den, SL.den] at h
    omega
  have hp : ∀ {ν : Env Gh} {x : Vals Gh}, (∀ x ∈ bSame, x.1.den ν ≠ x.2) → 0 ≤ x.i 0 → pcDen (ν.at nSame x) pSame := by
    intro ν x h h0
    have := hb h
    have rf : RF nSame ν x (ν.at nSame x) := RF.self rfl
    simp only [pSame, tSame, pcDen_cons_iff, pcDen_nil_iff, and_true, SB.den, decide_eq_false_iff_not, beq_iff_eq]
    simp only [SI.den, SL.den, rf.i 0 (by decide), rf.io 0 (by decide), rf.io 2 (by decide), rf.lo 0 (by decide), rf.lo 1 (by decide)]
    omega
  refine loopT_ok pr noOrac_ok (rfl : nSame = nmAt 4) (by decide +kernel) oneSame (ghL []) bodySame stSame
    (fun ν x => 0 ≤ x.i 0 ∧ x.i 0 ≤ (ν.l 0).length ∧ ∀ j : Nat, (j : Int) < x.i 0 → (ν.l 0).getD j 0 = (ν.l 1).getD j 0) (fun ν x => ((ν.l 0).length - x.i 0).toNat) ?_ ?_ noOrac_ok
  · intro ν hI h
    have := hb h
    refine ⟨⟨by simp [startSame, Mt.vals, lkp, SI.den], by simp [startSame, Mt.vals, lkp, SI.den], fun j hj => ?_⟩, hp h (by simp [startSame, Mt.vals, lkp, SI.den]), by constructor <;> simp [startSame]⟩
    simp [startSame, Mt.vals, lkp, SI.den] at hj
    omega
  · intro t ht ν x ν2 hI h hJ _ rf hpc
    have := hb h
    obtain ⟨j1, j2, j3⟩ := hJ
    simp only [sumsSame, List.mem_cons, List.not_mem_nil, or_false] at ht
    rcases ht with rfl | rfl | rfl | rfl
    all_goals
      simp only [pcDen_cons_iff, SB.den, decide_eq_true_eq, decide_eq_false_iff_not, beq_iff_eq, beq_eq_false_iff_ne] at hpc
      simp only [SI.den, SL.den, rf.i 0 (by decide), rf.io 0 (by decide), rf.io 2 (by decide), rf.lo 0 (by decide), rf.lo 1 (by decide)] at hpc
    · show False
      omega
    · refine ⟨fun g hg => ?_, by constructor <;> simp⟩
      cases hg
      refine pcDen_one ?_
      have rf3 : ∀ y, RF nSame ν y (ν.at nSame y) := fun y => RF.self rfl
      rw [eqX_den ((rf3 _).I.trans hI)]
      simp only [SL.den, beq_eq_false_iff_ne, (rf3 _).lo 0 (by decide), (rf3 _).lo 1 (by decide)]
      intro e
      exact hpc.1 (by rw [e])
    · have e : (Mt.vals ⟨[], [(0, (.wrap .i64 (.add (.var (nSame + 0)) (.lit 1))))], [], [], [], [], [], []⟩ (ghL []) ν2).i 0 = x.i 0 + 1 := by
        simp only [Mt.vals, lkp, Nat.beq_refl, if_true, SI.den, rf.i 0 (by decide)]
        rw [wrapS _ (by omega) (by omega)]
      refine ⟨⟨by rw [e]; omega, by rw [e]; omega, fun j hj => ?_⟩, hp h (by rw [e]; omega), by rw [e]; omega, by constructor <;> simp⟩
      rw [e] at hj
      rcases Int.lt_or_le (j : Int) (x.i 0) with hlt | hlt
      · exact j3 j hlt
      · have e2 : (x.i 0).toNat = j := by omega
        have := hpc.1
        rwa [e2] at this
    · refine ⟨fun g hg => ?_, by constructor <;> simp⟩
      cases hg
      refine pcDen_one ?_
      have rf3 : ∀ y, RF nSame ν y (ν.at nSame y) := fun y => RF.self rfl
      rw [eqX_den ((rf3 _).I.trans hI)]
      simp only [SL.den, beq_iff_eq, (rf3 _).lo 0 (by decide), (rf3 _).lo 1 (by decide)]
      exact list_ext (by omega) (fun j hj => j3 j (by omega))
def kSame (P : Program) := sumK P tSame ouSame
theorem same_ok {O : Orac} (oo : OOK Tryz.prog O inM) : OOK Tryz.prog (O.withCallF 10 (kSame Tryz.prog)) inM := withCallF_ok oo (sum_ok pr oSame_ok runSame oo)
end Go.Proofs.YtiofchhmdkhfoaaGreat
end
