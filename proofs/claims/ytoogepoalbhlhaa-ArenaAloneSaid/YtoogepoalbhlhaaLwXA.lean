/- What the executor asks of the program: the order of evaluation is drawn, and no function is named as the runtime's count of goroutines. -/
import Derived.Test.YtoogepoalbhlhaaSyC
import Derived.KernelRfl
import Derived.Test.YtoogepoalbhlhaaProg
import Derived.Test.YtoogepoalbhlhaaSyD
import Derived.Test.YtoogepoalbhlhaaSyA
import Derived.Test.YtoogepoalbhlhaaSyH
import Derived.Test.YtoogepoalbhlhaaSyK
import Derived.Test.YtoogepoalbhlhaaSyE
set_option linter.unusedVariables false
set_option linter.unusedSimpArgs false

section
namespace Go.Proofs.Ytoogepoalbhlhaa
open Go Go.Sy

theorem mixed : Try.prog.follows .mixedOrders = true := by kernel_rfl
theorem ng : ∀ (f : Nat) (fn : Func), Try.prog.funcs[f]? = some fn → (fn.name == "runtime.NumGoroutine") = false := by
  have h : Try.prog.funcs.all (fun fn => !(fn.name == "runtime.NumGoroutine")) = true := by kernel_rfl
  intro f fn hf
  have := Array.all_eq_true'.1 h fn (Array.mem_of_getElem? hf)
  simpa using this
theorem pr : PR Try.prog := ⟨mixed, ng⟩

theorem own : ownKnob Try.prog.godebug = none := by kernel_rfl

/-- Numbers, lists; no ghost. -/
def envOf (i : Nat → Int) (b : Nat → Bool) (l : Nat → List Int) (e : Nat → Addr) : Env Unit := ⟨In.none, fun _ => (), i, b, fun _ => .bool false, l, e, fun _ => rfl⟩
def noAddr : Nat → Addr := fun _ => ⟨0, 0, none⟩
end Go.Proofs.Ytoogepoalbhlhaa
end

section
namespace Go.Proofs.Ytoogepoalbhlhaa
open Go Go.Sy

def sgnB : List Char := List.map Char.ofNat [53,100,101,54,102,50,52,100,53,52,48,101,54,56,48,57,55,53,97,49,99,99,57,101,53,53,53,57,57,57,55,56,98,101,54,49,100,97,50,51,57,54,56,100,100,101,51,55,51,101,53,52,57,51,56,48,49,54,50,56,52,51,57,98]
def sgnR : List Char := List.map Char.ofNat [97,116,32,99,111,97,99,104,121,97,114,100,47,99,111,97,99,104,121,97,114,100,108,97,119,49,50,46,80,108,97,110,80,97,114,116,115,32,99,111,97,99,104,121,97,114,100,47,99,111,97,99,104,121,97,114,100,108,97,119,48,51,46,67,101,108,108,115,80,108,97,121,32,99,111,97,99,104,121,97,114,100,47,99,111,97,99,104,121,97,114,100,108,97,119,48,51,46,67,101,108,108,115,65,112,97,114,116,32,99,111,97,99,104,121,97,114,100,47,99,111,97,99,104,121,97,114,100,108,97,119,48,51,46,67,101,108,108,115,70,105,108,108,32,99,111,97,99,104,121,97,114,100,47,99,111,97,99,104,121,97,114,100,108,97,119,49,50,46,80,108,97,110,73,110,105,116,115,32,99,111,97,99,104,121,97,114,100,47,99,111,97,99,104,121,97,114,100,108,97,119,48,54,46,65,114,101,110,97,65,108,111,110,101,32,99,111,97,99,104,121,97,114,100,47,99,111,97,99,104,121,97,114,100,108,97,119,48,54,46,65,114,101,110,97,73,110,105,116,115,32,99,111,97,99,104,121,97,114,100,47,99,111,97,99,104,121,97,114,100,108,97,119,48,54,46,65,114,101,110,97,79,110,99,101,32,99,111,97,99,104,121,97,114,100,47,99,111,97,99,104,121,97,114,100,108,97,119,48,54,46,65,114,101,110,97,83,116,101,112,115,32,99,111,97,99,104,121,97,114,100,47,99,111,97,99,104,121,97,114,100,108,97,119,51,50,46,76,97,110,101,80,108,97,121,115,32,99,111,97,99,104,121,97,114,100,47,99,111,97,99,104,121,97,114,100,108,97,119,51,50,46,76,97,110,101,65,108,111,110,101,32,99,111,97,99,104,121,97,114,100,47,99,111,97,99,104,121,97,114,100,108,97,119,51,50,46,76,97,110,101,65,108,108]
theorem sign : Try.prog.initOrder = String.ofList (signOf sgnB sgnR) := by kernel_rfl
theorem words : behindMainWord (wordsSigns Try.prog.initOrder.toList) = sgnC :: wordsSigns sgnR := words_of sign (by decide +kernel) (by decide +kernel)
theorem facts : ProgFacts Try.prog where
  laid := by kernel_rfl
  rowed := by kernel_rfl
  stops := by kernel_rfl
  knobs := by kernel_rfl
  keys := by kernel_rfl
  heard := by kernel_rfl
  enter := mayEnter_of words (by kernel_rfl) (by kernel_rfl) (by kernel_rfl)
  final := liftsFinal_of words
  make := make_of words
end Go.Proofs.Ytoogepoalbhlhaa
end

section
namespace Go.Proofs.Ytoogepoalbhlhaa
open Go Go.Sy Go.RowKit

theorem wrapS (x : Int) (h1 : -9223372036854775808 ≤ x) (h2 : x ≤ 9223372036854775807) : IntKind.i64.wrap x = x := by
  rw [IntKind.wrap_i64]; omega
theorem wrapU (x : Int) : IntKind.u64.wrap x = x % 18446744073709551616 := by
  rw [IntKind.wrap_u64]
theorem list_ext {xs ys : List Int} (hl : xs.length = ys.length) (h : ∀ j : Nat, (j : Int) < xs.length → xs.getD j 0 = ys.getD j 0) : xs = ys := by
  refine List.ext_getElem hl fun j h1 h2 => ?_
  have := h j (by omega)
  simpa [List.getD_eq_getElem?_getD, h1, h2] using this
theorem bits_all : (List.range 257).all (fun n => decide (n < 2) || (decide (bitsDen 0 .i64 n (IntKind.i64.wrap (n - 1)) = 0) == (n == 2 || n == 4 || n == 8 || n == 16 || n == 32 || n == 64 || n == 128 || n == 256))) = true := by decide +kernel
/-- The sizes that may be. -/
def Pow (c : Int) : Prop := c = 2 ∨ c = 4 ∨ c = 8 ∨ c = 16 ∨ c = 32 ∨ c = 64 ∨ c = 128 ∨ c = 256
theorem bits_iff (c : Int) (h1 : 2 ≤ c) (h2 : c ≤ 256) : bitsDen 0 .i64 c (IntKind.i64.wrap (c - 1)) = 0 ↔ Pow c := by
  obtain ⟨n, rfl⟩ : ∃ n : Nat, c = n := ⟨c.toNat, by omega⟩
  have h := List.all_eq_true.1 bits_all n (List.mem_range.2 (by omega))
  simp only [Bool.or_eq_true, decide_eq_true_eq, beq_iff_eq] at h
  rcases h with h | h
  · omega
  · unfold Pow
    constructor
    · intro h3
      have h4 : decide (bitsDen 0 .i64 (n : Int) (IntKind.i64.wrap ((n : Int) - 1)) = 0) = true := decide_eq_true h3
      rw [h4] at h
      have := h.symm
      simp only [Bool.or_eq_true, beq_iff_eq] at this
      omega
    · intro h3
      have : (n == 2 || n == 4 || n == 8 || n == 16 || n == 32 || n == 64 || n == 128 || n == 256) = true := by
        simp only [Bool.or_eq_true, beq_iff_eq]; omega
      rw [this] at h
      exact of_decide_eq_true h
/-- A mask of a power of two is a rest. -/
theorem mask_mod (t c : Int) (h : Pow c) : bitsDen 0 .u64 t (IntKind.u64.wrap (IntKind.i64.wrap (c - 1))) = t % 18446744073709551616 % c := by
  have key : ∀ k : Nat, k ≤ 8 → bitsDen 0 .u64 t (((2 ^ k - 1 : Nat)) : Int) = t % 18446744073709551616 % ((2 ^ k : Nat) : Int) := by
    intro k hk
    have e1 : (BitVec.ofInt 64 t).toNat = (t % 18446744073709551616).toNat := by
      rw [BitVec.toNat_ofInt]; rfl
    have hlt : 2 ^ k ≤ 256 := by
      calc 2 ^ k ≤ 2 ^ 8 := Nat.pow_le_pow_right (by omega) hk
        _ = 256 := rfl
    have hpos : 0 < 2 ^ k := Nat.pow_pos (by omega)
    have e2 : (BitVec.ofInt 64 ((2 ^ k - 1 : Nat) : Int)).toNat = 2 ^ k - 1 := by
      rw [BitVec.toNat_ofInt]; omega
    show IntKind.u64.wrap ((BitVec.ofInt 64 t &&& BitVec.ofInt 64 ((2 ^ k - 1 : Nat) : Int)).toNat : Int) = _
    rw [wrapU, BitVec.toNat_and, e1, e2, Nat.and_two_pow_sub_one_eq_mod]
    have h1 : 0 ≤ t % 18446744073709551616 := Int.emod_nonneg _ (by omega)
    generalize t % 18446744073709551616 = u at h1 ⊢
    obtain ⟨n, rfl⟩ : ∃ n : Nat, u = n := ⟨u.toNat, by omega⟩
    simp only [Int.toNat_natCast]
    have h2 : n % 2 ^ k < 2 ^ k := Nat.mod_lt _ hpos
    have h3 : ((n : Int) % ((2 ^ k : Nat) : Int)) = ((n % 2 ^ k : Nat) : Int) := rfl
    rw [h3]
    omega
  have w1 : IntKind.u64.wrap (IntKind.i64.wrap (c - 1)) = c - 1 := by
    rw [wrapU]
    unfold Pow at h
    rw [wrapS _ (by omega) (by omega)]
    omega
  rw [w1]
  unfold Pow at h
  rcases h with rfl | rfl | rfl | rfl | rfl | rfl | rfl | rfl
  · exact key 1 (by omega)
  · exact key 2 (by omega)
  · exact key 3 (by omega)
  · exact key 4 (by omega)
  · exact key 5 (by omega)
  · exact key 6 (by omega)
  · exact key 7 (by omega)
  · exact key 8 (by omega)
theorem slotsG_length (l : List Int) (a b c d m o s : Int) : (slotsG l a b c d m o s).length = d.toNat := by simp [slotsG]
theorem slotsG_step (l : List Int) (a b c m o s : Int) (d : Nat) : slotsG l a b c (d + 1 : Nat) m o s = slotsG l a b c d m o s ++ [l.getD (a + o + s * ((c + d) % m % b)).toNat 0] := by
  simp [slotsG, List.range_succ]
theorem slotsG_get (l : List Int) (a b c m o s : Int) (d j : Nat) (h : j < d) : (slotsG l a b c d m o s)[j]? = some (l.getD (a + o + s * ((c + j) % m % b)).toNat 0) := by
  simp [slotsG, h]
/-! what may be, as a condition -/
def powB (c : SI) : SB := .or (.eq c (.lit 2)) (.or (.eq c (.lit 4)) (.or (.eq c (.lit 8)) (.or (.eq c (.lit 16)) (.or (.eq c (.lit 32)) (.or (.eq c (.lit 64)) (.or (.eq c (.lit 128)) (.eq c (.lit 256))))))))
def rightB (k : Int) (at' size : SI) : SB := .and (.not (.lt at' (.lit 0))) (.and (.lt at' (.sub (.lit 65535) (.mul (.lit k) size))) (powB size))
def Right (k at' size : Int) : Prop := 0 ≤ at' ∧ at' < 65535 - k * size ∧ Pow size
theorem powB_den {G : Type} (ν : Env G) (c : SI) : (powB c).den ν = true ↔ Pow (c.den ν) := by
  simp only [powB, SB.den, SI.den, Pow, Bool.or_eq_true, beq_iff_eq]
theorem rightB_den {G : Type} (ν : Env G) (k : Int) (a c : SI) : (rightB k a c).den ν = true ↔ Right k (a.den ν) (c.den ν) := by
  simp only [rightB, SB.den, Right, Bool.and_eq_true, powB_den, Bool.not_eq_true', decide_eq_false_iff_not, decide_eq_true_eq]
  simp only [SI.den]
  constructor
  · rintro ⟨h1, h2, h3⟩; exact ⟨by omega, by omega, h3⟩
  · rintro ⟨h1, h2, h3⟩; exact ⟨by omega, by omega, h3⟩
theorem rightB_no {G : Type} (ν : Env G) (k : Int) (a c : SI) : (rightB k a c).den ν = false ↔ ¬ Right k (a.den ν) (c.den ν) := by
  rw [← rightB_den]; cases (rightB k a c).den ν <;> simp
theorem Pow.le {c : Int} (h : Pow c) : 2 ≤ c ∧ c ≤ 256 := by unfold Pow at h; omega
end Go.Proofs.Ytoogepoalbhlhaa
end

section
namespace Go.Proofs.Ytoogepoalbhlhaa
open Go Go.Sy Go.RowKit

def trueK (_ : Nat) (args : List SV) (pc : PC) (hp : Heap) : Option (List CLeaf) := match args with
  | [] => some [⟨false, .bool (.lit true), pc, hp⟩]
  | _ => none
theorem true_ok {G : Type} {O : Orac} {I : In G} {f : Nat} (hf : ∀ w, Calls Try.prog f #[] w fun e w' => e = .returned (.bool true) ∧ Below w.heap.size w w') (oo : OOK Try.prog O I) : OOK Try.prog (O.withCall f trueK) I := by
  refine withCall_ok oo ?_
  intro lo args pc hp cs h sz hsz B ν ρ w R hI hpc hw hl
  unfold trueK at h
  split at h
  · cases h
    exact pure_call' (v := .bool (.lit true)) hpc hw hl (List.mem_cons_self ..) (hf w)
  · cases h
end Go.Proofs.Ytoogepoalbhlhaa
end

section
namespace Go.Proofs.Ytoogepoalbhlhaa
open Go Go.Sy Go.RowKit

def oSm (P : Program) : Orac := ((noOrac.withOp (opSliceT P)).withOp (opAppendW P)).withOp (opLoadS P)
/-- all of a list's numbers lie in between -/
def rangeB (l : SL) (a b : Int) : SB := .gb 0 (.app 45 (.var 0) (.var 0) (.lit a) (.lit b) (.lit 0) (.lit 0) l) (.lit 0) (.lit 0)
/-- a walk that has ended -/
def overW (n j ty : Nat) : SBk := .cells [.int .i64 (.var (n + j)), .int .i64 (.var (n + j + 1)), .int .u64 (.var (n + j + 2)), .int .u64 (.var (n + j + 3)), .nilFunc, .bool (.lit false), .nilPtr, .nilFunc, .bool (.lit true), .int .i64 (.var (n + j + 4)), .int .u64 (.var (n + j + 5)), .nilSl, .nilSl] ty true
def ptrOf : SV → Nat
  | .ptr b _ => b
  | .sl b _ _ _ => b
  | _ => 0
def cellN (hp : Heap) (b k : Nat) : SV := match hget b hp with
  | some (.cells cs _ _) => (cs[k]?).getD .dead
  | _ => .dead
def setCell (b k : Nat) (v : SV) (hp : Heap) : Heap := match hget b hp with
  | some (.cells cs t x) => hset b (.cells (cs.set k v) t x) hp
  | _ => hp
def setList (b : Nat) (l : SL) (hp : Heap) : Heap := match hget b hp with
  | some (.row k _ c t) => hset b (.row k l c t) hp
  | _ => hp
def keepFr (ks : List Nat) (fr : List SV) : List SV := fr.zipIdx.map fun x => if ks.any (Nat.beq x.2) then x.1 else .dead
/-- What the frame leads to. -/
def insA (n : Nat) (l : List Nat) : List Nat := if l.any (Nat.beq n) then l else n :: l
def ptrs : List SV → List Nat → List Nat
  | [], ns => ns
  | .ptr b _ :: r, ns => ptrs r (insA b ns)
  | .sl b _ _ _ :: r, ns => ptrs r (insA b ns)
  | _ :: r, ns => ptrs r ns
def reachB (hp : Heap) (ns : List Nat) : List Nat := hp.foldl (fun ns x => if ns.any (Nat.beq x.1) then (match x.2 with | .cells cs _ _ => ptrs cs ns | _ => ns) else ns) ns
def reachK (hp : Heap) : Nat → List Nat → List Nat
  | 0, ns => ns
  | k + 1, ns => reachK hp k (reachB hp ns)
def reachL (L : Leaf) : Leaf := let ns := reachK L.hp L.hp.length (ptrs L.fr [])
  { L with hp := L.hp.filter fun x => ns.any (Nat.beq x.1) }
def qAt (l : List PC) (k : Nat) : PC := (l[k]?).getD []
def hdAt (l : List Tgt) (k : Nat) : Tgt := (l[k]?).getD ⟨.bad, [], [], []⟩
theorem pcAt {G : Type} {ν : Env G} {pc : PC} (h : pcDen ν pc) (k : Nat) {c : SB} {b : Bool} (hk : pc[k]? = some (c, b)) : c.den ν = b := h c b (List.mem_of_getElem? hk)
theorem lt_den {G : Type} {ν : Env G} {a c : SI} {b : Bool} (h : (SB.lt a c).den ν = b) : a.den ν < c.den ν ↔ b = true := by
  simp only [SB.den] at h
  rw [← h]
  exact decide_eq_true_iff.symm
theorem lt_of {G : Type} {ν : Env G} {a c : SI} {b : Bool} (h : a.den ν < c.den ν ↔ b = true) : (SB.lt a c).den ν = b := by
  simp only [SB.den]
  cases b
  · exact decide_eq_false (by simpa using h)
  · exact decide_eq_true (by simpa using h)
theorem range_den {ν : Env Gh} (hI : ν.I = inM) (l : SL) (a b : Int) : (rangeB l a b).den ν = true ↔ ∀ x ∈ l.den ν, a ≤ x ∧ x ≤ b := by
  simp only [rangeB, SB.den, SG.den, SI.den, hI, inM, xga]
  simp
theorem wu (x : Int) : IntKind.u64.wrap x = x % 18446744073709551616 := wrapU x
theorem one : (1 : Int).toNat = 1 := rfl
/-- A path turned, that is not met by any: all of it holds. -/
theorem bads_of {ν : Env Gh} {p : PC} (h : ∀ x ∈ p.map fun x => (x.1, !x.2), x.1.den ν ≠ x.2) : pcDen ν p := by
  intro c b hm
  have := h (c, !b) (List.mem_map.2 ⟨(c, b), hm, rfl⟩)
  revert this
  simp only
  cases c.den ν <;> cases b <;> simp
end Go.Proofs.Ytoogepoalbhlhaa
end

section
namespace Go.Proofs.Ytoogepoalbhlhaa
open Go Go.Sy Go.RowKit

def fAi : Nat := 42
def tAi : Tmpl := ⟨[.agg [.int .i64 (.lit 0), .int .i64 (.var 1)], .ptr 0 (.lit 0), .int .i64 (.lit 1)], [(.lt (.var 1) (.lit 1), false), (.lt (.lit 64) (.var 1), false), (.eq (.len (.var 0)) (.add (.var 1) (.lit 1)), true)],
  [(0, .cells [.sl 1 (.lit 0) (.len (.var 0)) (.var 7)] 124 true), (1, .row .u64 (.var 0) (.var 8) 51)]⟩
def nAi : Nat := nmAt 13
def oAi (P : Program) : Orac := (oSm P).pruned P
def eAi (P : Program) : Leaf := capN 0 (capAll P (oAi P) fAi 13 tAi.args tAi.pc tAi.hp)
def linkX (i : SI) : SL := .gl 0 (.app 22 (.var 0) (.var 0) (.lit 0) (.var 1) (.lit 1) i (.var 0)) (.lit 0) (.lit 0)
def hAi (P : Program) : Leaf := let L := eAi P
  { L with fr := (keepFr [0, 1, 2, 3] L.fr).set 9 (.int .i64 (.var nAi)), hp := setList 1 (.var (nAi + 1)) L.hp }
def pAi (P : Program) : PC := [(.lt (.var nAi) (.lit 1), false), (.lt (.lit 65) (.var nAi), false), (.lt (.add (.var 1) (.lit 1)) (.var nAi), false), (.eq (.len (.var (nAi + 1))) (.add (.var 1) (.lit 1)), true)] ++ (eAi P).pc
def gAi (P : Program) : List Tgt := [⟨.exit 0, (hAi P).fr.map fun _ => .dead, setList 1 (linkX (.add (.var 1) (.lit 1))) (eAi P).hp, []⟩]
def bodyAi (P : Program) : Option (List Leaf) := codeX P (oAi P) LO7 SZ7 fAi 6000 0 (loopAt P fAi 13) (hAi P).fr (pAi P) (hAi P).hp
def sAi (P : Program) : Option (List SumT) := (bodyAi P).bind (sumsT P nAi LO7 SZ7 (⟨.normal, (hAi P).fr, (hAi P).hp, pAi P⟩ :: gAi P))
def oAiL (P : Program) : Orac := (oAi P).withLoop fAi 13 nAi (eAi P).fr (eAi P).hp (mkM nAi (gAi P) ((eAi P).pc.map fun x => (x.1, !x.2)))
end Go.Proofs.Ytoogepoalbhlhaa
end

section
namespace Go.Proofs.Ytoogepoalbhlhaa
open Go Go.Sy Go.RowKit

def pcAi : PC := [((.lt (.var 1) (.lit 1)), false), ((.lt (.lit 64) (.var 1)), false), ((.eq (.len (.var 0)) (.add (.var 1) (.lit 1))), true)]
def startAi : Mt := ⟨[], [(0, (.lit 1))], [(1, (.set (.var 0) (.lit 0) (.lit 1)))], [], [], [], [], []⟩
def sumsAi : List SumT := [
  ⟨.normal, 0, ⟨[], [(0, (.add (.var (nAi + 0)) (.lit 1)))], [(1, (.set (.var (nAi + 1)) (.var (nAi + 0)) (.add (.var (nAi + 0)) (.lit 1))))], [], [], [], [], []⟩, [((.lt (.var (nAi + 0)) (.var 1)), true), ((.lt (.var 1) (.var (nAi + 0))), false), ((.lt (.var (nAi + 0)) (.lit 1)), false), ((.lt (.lit 65) (.var (nAi + 0))), false), ((.lt (.add (.var 1) (.lit 1)) (.var (nAi + 0))), false), ((.eq (.len (.var (nAi + 1))) (.add (.var 1) (.lit 1))), true), ((.lt (.var 1) (.lit 1)), false), ((.lt (.lit 64) (.var 1)), false), ((.eq (.len (.var 0)) (.add (.var 1) (.lit 1))), true)]⟩,
  ⟨.normal, 0, ⟨[], [(0, (.add (.var (nAi + 0)) (.lit 1)))], [(1, (.set (.var (nAi + 1)) (.var (nAi + 0)) (.lit 0)))], [], [], [], [], []⟩, [((.lt (.var (nAi + 0)) (.var 1)), false), ((.lt (.var 1) (.var (nAi + 0))), false), ((.lt (.var (nAi + 0)) (.lit 1)), false), ((.lt (.lit 65) (.var (nAi + 0))), false), ((.lt (.add (.var 1) (.lit 1)) (.var (nAi + 0))), false), ((.eq (.len (.var (nAi + 1))) (.add (.var 1) (.lit 1))), true), ((.lt (.var 1) (.lit 1)), false), ((.lt (.lit 64) (.var 1)), false), ((.eq (.len (.var 0)) (.add (.var 1) (.lit 1))), true)]⟩,
  ⟨.exit 0, 0, ⟨[], [], [], [], [], [((.var (nAi + 1)), (.gl 0 (.app 22 (.var 0) (.var 0) (.lit 0) (.var 1) (.lit 1) (.add (.var 1) (.lit 1)) (.var 0)) (.lit 0) (.lit 0)))], [], []⟩, [((.lt (.var 1) (.var (nAi + 0))), true), ((.lt (.var (nAi + 0)) (.lit 1)), false), ((.lt (.lit 65) (.var (nAi + 0))), false), ((.lt (.add (.var 1) (.lit 1)) (.var (nAi + 0))), false), ((.eq (.len (.var (nAi + 1))) (.add (.var 1) (.lit 1))), true), ((.lt (.var 1) (.lit 1)), false), ((.lt (.lit 64) (.var 1)), false), ((.eq (.len (.var 0)) (.add (.var 1) (.lit 1))), true)]⟩]
def ouAi : List CLeaf := [
  ⟨false, (.int .i64 (.lit 0)), [((.lt (.var 1) (.lit 1)), false), ((.lt (.lit 64) (.var 1)), false), ((.eq (.len (.var 0)) (.add (.var 1) (.lit 1))), true)], [(0, (.cells [(.sl 1 (.lit 0) (.len (.var 0)) (.var 7))] 124 true)), (1, (.row .u64 (.gl 0 (.app 22 (.var 0) (.var 0) (.lit 0) (.var 1) (.lit 1) (.add (.var 1) (.lit 1)) (.var 0)) (.lit 0) (.lit 0)) (.var 8) 51))]⟩]
theorem oAi_ok : OOK Try.prog (oAi Try.prog) inM := pruned_ok pr (opLoadS_ok (opAppendW_ok (opSliceT_ok noOrac_ok)))
theorem pcAi_eq : (eAi Try.prog).pc = pcAi := by kernel_rfl
theorem avAi : pav nAi (nAi + 64) pcAi = true := by kernel_rfl
theorem bAi : sAi Try.prog = some sumsAi := by kernel_rfl
theorem stAi : mAll nAi 0 0 Try.prog (eAi Try.prog).fr (eAi Try.prog).hp (hAi Try.prog).fr (hAi Try.prog).hp = some startAi := by kernel_rfl
theorem oneAi : (loopsAt Try.prog fAi 13).length = 1 := by kernel_rfl
theorem runAi : runX Try.prog (oAiL Try.prog) fAi tAi.args tAi.pc tAi.hp = some ouAi := by kernel_rfl
theorem factsAi {ν : Env Gh} (h : pcDen ν pcAi) : 1 ≤ ν.i 1 ∧ ν.i 1 ≤ 64 ∧ ((ν.l 0).length : Int) = ν.i 1 + 1 := by
  have h1 := lt_den (pcAt h 0 rfl)
  have h2 := lt_den (pcAt h 1 rfl)
  have h3 := pcAt h 2 rfl
  simp only [SB.den, beq_iff_eq] at h3
  simp only [SI.den, SL.den, Bool.false_eq_true, iff_false] at h1 h2 h3
  exact ⟨by omega, by omega, h3⟩
attribute [local irreducible] nmAt
theorem oAiL_ok : OOK Try.prog (oAiL Try.prog) inM := by
  have hb : ∀ {ν : Env Gh}, (∀ x ∈ (eAi Try.prog).pc.map fun x => (x.1, !x.2), x.1.den ν ≠ x.2) → pcDen ν pcAi := fun h => by rw [pcAi_eq] at h; exact bads_of h
  have hp : ∀ {ν : Env Gh} {x : Vals Gh}, pcDen ν pcAi → 1 ≤ x.i 0 → x.i 0 ≤ ν.i 1 + 1 → ((x.l 1).length : Int) = ν.i 1 + 1 → pcDen (ν.at nAi x) (pAi Try.prog) := by
    intro ν x h h0 h1 h2
    have F := factsAi h
    have rf : RF nAi ν x (ν.at nAi x) := RF.self rfl
    have r0 : (ν.at nAi x).i nAi = x.i 0 := rf.i 0 (by decide)
    have hold : pcDen (ν.at nAi x) pcAi := pcDen_agree (at_agree (ρ := fun _ => 0) (ρ' := fun _ => 0) (fun _ _ => rfl)) avAi h
    unfold pAi
    rw [pcAi_eq]
    refine pcDen_append (pcDen_cons (lt_of ?_) (pcDen_cons (lt_of ?_) (pcDen_cons (lt_of ?_) (pcDen_one ?_)))) hold
    · simp only [SI.den, r0, Bool.false_eq_true, iff_false]; omega
    · simp only [SI.den, r0, Bool.false_eq_true, iff_false]; omega
    · simp only [SI.den, r0, rf.io 1 (by decide), Bool.false_eq_true, iff_false]; omega
    · simp only [SB.den, beq_iff_eq]
      simp only [SI.den, SL.den, rf.l 1 (by decide), rf.io 1 (by decide)]
      exact h2
  refine loopT_ok pr oAi_ok (rfl : nAi = nmAt 13) (by decide +kernel) oneAi (ghL []) bAi stAi
    (fun ν x => 1 ≤ x.i 0 ∧ x.i 0 ≤ ν.i 1 + 1 ∧ x.l 1 = iG (ν.l 0) 0 (ν.i 1) 1 (x.i 0)) (fun ν x => (ν.i 1 + 1 - x.i 0).toNat) ?_ ?_ oAi_ok
  · intro ν hI h
    have hp' := hb h
    have F := factsAi hp'
    generalize hy : Mt.vals startAi (ghL []) ν = y
    have y0 : y.i 0 = 1 := by rw [← hy]; simp only [startAi, Mt.vals, lkp_cons, lkp_nil, Nat.reduceEqDiff, reduceIte, SI.den]
    have y1 : y.l 1 = (ν.l 0).set 0 1 := by rw [← hy]; simp only [startAi, Mt.vals, lkp_cons, lkp_nil, Nat.reduceEqDiff, reduceIte, SL.den, SI.den, Int.toNat_zero]
    refine ⟨⟨by omega, by omega, ?_⟩, hp hp' (by omega) (by omega) (by rw [y1, List.length_set]; exact F.2.2), ?_⟩
    · rw [y1, y0]
      exact iG_start (at' := 0) (by omega) (by rw [if_pos (by omega)])
    · constructor <;> simp [startAi]
  · intro t ht ν x ν2 hI h hJ _ rf hpc
    have hp' := hb h
    have F := factsAi hp'
    obtain ⟨j0, j1, j2⟩ := hJ
    have q0 : ν2.i (nAi + 0) = x.i 0 := rf.i 0 (by decide)
    have q1 : ν2.l (nAi + 1) = x.l 1 := rf.l 1 (by decide)
    have qn : ν2.i 1 = ν.i 1 := rf.io 1 (by decide)
    have hl : ((x.l 1).length : Int) = ν.i 1 + 1 := by rw [j2, iG_length]; exact F.2.2
    simp only [sumsAi, List.mem_cons, List.not_mem_nil, or_false] at ht
    rcases ht with rfl | rfl | rfl
    · have c := lt_den (pcAt hpc 0 rfl)
      simp only [SI.den, q0, qn, iff_true] at c
      generalize hy : Mt.vals _ (ghL []) ν2 = y
      have y0 : y.i 0 = x.i 0 + 1 := by rw [← hy]; simp only [Mt.vals, lkp_cons, lkp_nil, Nat.reduceEqDiff, reduceIte, SI.den, q0]
      have y1 : y.l 1 = (x.l 1).set (x.i 0).toNat (x.i 0 + 1) := by rw [← hy]; simp only [Mt.vals, lkp_cons, lkp_nil, Nat.reduceEqDiff, reduceIte, SI.den, SL.den, q0, q1]
      refine ⟨⟨by omega, by omega, ?_⟩, hp hp' (by omega) (by omega) (by rw [y1, List.length_set]; exact hl), by show _ < (ν.i 1 + 1 - x.i 0).toNat; omega, by constructor <;> simp⟩
      rw [y1, y0, j2]
      have := iG_set (l := ν.l 0) (at' := 0) (N := ν.i 1) (f := 1) (i := x.i 0) (v := x.i 0 + 1) (by omega) j0 (by rw [if_pos (by omega)])
      rwa [Int.zero_add] at this
    · have c := lt_den (pcAt hpc 0 rfl)
      have c2 := lt_den (pcAt hpc 1 rfl)
      simp only [SI.den, q0, qn, iff_true, Bool.false_eq_true, iff_false] at c c2
      generalize hy : Mt.vals _ (ghL []) ν2 = y
      have y0 : y.i 0 = x.i 0 + 1 := by rw [← hy]; simp only [Mt.vals, lkp_cons, lkp_nil, Nat.reduceEqDiff, reduceIte, SI.den, q0]
      have y1 : y.l 1 = (x.l 1).set (x.i 0).toNat 0 := by rw [← hy]; simp only [Mt.vals, lkp_cons, lkp_nil, Nat.reduceEqDiff, reduceIte, SI.den, SL.den, q0, q1]
      refine ⟨⟨by omega, by omega, ?_⟩, hp hp' (by omega) (by omega) (by rw [y1, List.length_set]; exact hl), by show _ < (ν.i 1 + 1 - x.i 0).toNat; omega, by constructor <;> simp⟩
      rw [y1, y0, j2]
      have := iG_set (l := ν.l 0) (at' := 0) (N := ν.i 1) (f := 1) (i := x.i 0) (v := 0) (by omega) j0 (by rw [if_neg (by omega)])
      rwa [Int.zero_add] at this
    · have c := lt_den (pcAt hpc 0 rfl)
      simp only [SI.den, q0, qn, iff_true] at c
      have rf3 : ∀ y, RF nAi ν y (ν.at nAi y) := fun y => RF.self rfl
      refine ⟨fun g hg => by cases hg; exact pcDen_nil _, ?_⟩
      constructor
      · simp
      · intro z hz
        simp only [List.mem_cons, List.not_mem_nil, or_false] at hz
        subst hz
        simp only [SL.den, q1]
        rw [j2]
        simp only [SG.den, SI.den, SL.den, (rf3 _).I, hI, (rf3 _).io 1 (by decide), (rf3 _).lo 0 (by decide)]
        rw [show x.i 0 = ν.i 1 + 1 by omega]
        rfl
      · simp
      · simp
theorem arInit_ok {O : Orac} (oo : OOK Try.prog O inM) : OOK Try.prog (O.withCallF fAi (sumK Try.prog tAi ouAi)) inM := withCallF_ok oo (sum_ok pr oAiL_ok runAi oo)
end Go.Proofs.Ytoogepoalbhlhaa
end

section
namespace Go.Proofs.Ytoogepoalbhlhaa
open Go Go.Sy Go.RowKit

theorem run_awake6 : restOf (runX Try.prog noOrac 40 [] [] []) = some [] := by kernel_rfl
theorem awake6_calls (w : World) : Calls Try.prog 40 #[] w fun e w' => e = .returned (.bool true) ∧ Below w.heap.size w w' :=
  law_auto pr (noOrac_ok (I := In.none)) run_awake6 w (envOf (fun _ => 0) (fun _ => false) (fun _ => []) noAddr) (fun _ => 0) rfl (pcDen_nil _) (HW.empty _ _ _)
def awakeK (_ : Nat) (args : List SV) (pc : PC) (hp : Heap) : Option (List CLeaf) := match args with
  | [] => some [⟨false, .bool (.lit true), pc, hp⟩]
  | _ => none
theorem awake6K_ok {G : Type} {O : Orac} {I : In G} (oo : OOK Try.prog O I) : OOK Try.prog (O.withCall 40 awakeK) I := by
  refine withCall_ok oo ?_
  intro lo args pc hp cs h sz hsz B ν ρ w R hI hpc hw hl
  unfold awakeK at h
  split at h
  · cases h
    exact pure_call' (v := .bool (.lit true)) hpc hw hl (List.mem_cons_self ..) (awake6_calls w)
  · cases h
end Go.Proofs.Ytoogepoalbhlhaa
end
