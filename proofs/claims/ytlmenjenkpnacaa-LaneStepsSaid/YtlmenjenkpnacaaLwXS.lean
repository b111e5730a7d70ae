/- What is seen, step by step: its rows, the answers; the oracle. -/
import Derived.Test.YtlmenjenkpnacaaLwXA
import Derived.Test.YtlmenjenkpnacaaSyM
import Derived.Test.YtlmenjenkpnacaaLwXT
set_option linter.unusedVariables false
set_option linter.unusedSimpArgs false

section
namespace Go.Proofs.Ytlmenjenkpnacaa
open Go Go.Sy Go.RowKit

/-- the answers: a slice of structs that came in -/
def tldV : SV := .sl 1 (.var 8) (.var 7) (.var 9)
def tldT : SBk := .tab 10 (.var 1) [some .u64, none] (.var 8) (.var 7)
def tldPC : PC := [(.lt (.var 7) (.lit 0), false), (.lt (.lit 200) (.var 7), false), (.lt (.var 8) (.lit 0), false), (.gb 0 (.app 83 (.var 1) (.var 0) (.lit 0) (.lit 0) (.lit 0) (.lit 0) .nil) (.lit 0) (.lit 0), true)]
def ksSn : List Nat := [3, 3, 7, 7, 8, 3, 7, 10, 8, 10]
/-- rows that a name tells -/
def stN (n : Nat) : St := ⟨.var n, 121, 10, .var n, ksL ksSn⟩
def svN (n : Nat) : SV := .sl n (.lit 0) (rowsS (stN n)) (.var n)
def bkN (n : Nat) : SBk := .res (stN n).full
def oSt (P : Program) : Orac := (((((qO.withOp (opSliceT P)).withOp (opAppendW P)).withOp (opLoadS P)).withOp (opAppS P)).withOp (opLoadSt P)).pruned P
end Go.Proofs.Ytlmenjenkpnacaa
end

section
namespace Go.Proofs.Ytlmenjenkpnacaa
open Go Go.Sy Go.RowKit

theorem getC_nums {a b : List SC} (h : a.map SC.nums = b.map SC.nums) (k : Int) : (getC a k).x = (getC b k).x ∧ (getC a k).l = (getC b k).l := by
  have h1 : (a.map SC.nums)[k.toNat]? = (b.map SC.nums)[k.toNat]? := by rw [h]
  rw [List.getElem?_map, List.getElem?_map] at h1
  unfold getC
  rw [List.getD_eq_getElem?_getD, List.getD_eq_getElem?_getD]
  cases ha : a[k.toNat]? <;> cases hb : b[k.toNat]? <;> rw [ha, hb] at h1
  · exact ⟨rfl, rfl⟩
  · cases h1
  · cases h1
  · rename_i x y
    simp only [Option.map_some, Option.some.injEq, SC.nums, Prod.mk.injEq] at h1
    exact ⟨h1.2.1, h1.2.2⟩
section
variable {σ : Type} {obs : σ → List SC} {step : σ → Int → Bool → σ} {s0 : σ} {t : List (Int × Int × Int × Int)}
theorem seenR_succ (n : Nat) : seenR obs step s0 t (n + 1) = seenR obs step s0 t n ++ obs (iterS step s0 t n) := by
  simp [seenR, List.range_succ]
theorem seenR_zero : seenR obs step s0 t 0 = [] := rfl
theorem seenR_length (h : ∀ s, (obs s).length = 10) : ∀ n, (seenR obs step s0 t n).length = n * 10
  | 0 => rfl
  | n + 1 => by rw [seenR_succ, List.length_append, seenR_length h n, h]; omega
theorem seenR_get (h : ∀ s, (obs s).length = 10) {i j : Nat} (hj : j < 10) : ∀ {n : Nat}, i < n → (seenR obs step s0 t n)[i * 10 + j]? = (obs (iterS step s0 t i))[j]?
  | 0, hi => by omega
  | n + 1, hi => by
    rw [seenR_succ, List.getElem?_append, seenR_length h]
    by_cases hlt : i < n
    · rw [if_pos (by omega), seenR_get h hj hlt]
    · have : i = n := by omega
      subst this
      rw [if_neg (by omega)]
      congr 1; omega
theorem seenR_getC (h : ∀ s, (obs s).length = 10) {i j : Int} (h0 : 0 ≤ i) (j0 : 0 ≤ j) (hj : j < 10) {n : Nat} (hi : i < n) : getC (seenR obs step s0 t n) (i * 10 + j) = getC (obs (iterS step s0 t i.toNat)) j := by
  unfold getC
  have e : (i * 10 + j).toNat = i.toNat * 10 + j.toNat := by omega
  rw [e, List.getD_eq_getElem?_getD, seenR_get h (by omega) (by omega), List.getD_eq_getElem?_getD]
end
theorem seenC_length (a b c d : Int) (w : Bool) (e f : Int) (o : Bool) (l : List Int) : (seenC a b c d w e f o l).length = 10 := rfl
/-! a ghost's cells, as numbers -/
def nG (g : Gh) : List (Nat × Int × List Int) := g.s.map SC.nums
theorem nG_len (g : Gh) : (nG g).length = g.s.length := by simp [nG]
section
variable {ν : Env Gh} (hI : ν.I = inM)
include hI
theorem nG73 (g h : SG) (a b c d : SI) (l : SL) : nG ((SG.app 73 g h a b c d l).den ν) = nG (g.den ν) ++ [((a.den ν).toNat, b.den ν, l.den ν)] := by
  simp [nG, SG.den, hI, inM, xga, SC.nums]
theorem nG1 (g h : SG) (a b c d : SI) : nG ((SG.app 1 g h a b c d .nil).den ν) = [] := by
  simp [nG, SG.den, hI, inM, ghL]
theorem gi17 (g h : SG) (e w c d : SI) (ks : SL) (a b : SI) : (SI.gi 17 (.app 78 g h e w c d ks) a b).den ν = (((nG (g.den ν)).length / (w.den ν).toNat : Nat) : Int) := by
  simp only [SI.den, SG.den, hI, inM, xga, nG_len]
theorem gi10 (g : SG) (a b : SI) : (SI.gi 10 g a b).den ν = (tolds (g.den ν).t (a.den ν).toNat).1 := by
  simp only [SI.den, hI, inM, tolds]
theorem gb11 (g : SG) (a b : SI) : (SB.gb 11 g a b).den ν = (tolds (g.den ν).t (a.den ν).toNat).2 := by
  simp only [SB.den, hI, inM, tolds]
theorem gi10u (g : Gh) (a b : Int) : ν.I.gi 10 g a b = (tolds g.t a.toNat).1 := by rw [hI]; simp only [inM, tolds]
theorem gb11u (g : Gh) (a b : Int) : ν.I.gb 11 g a b = (tolds g.t a.toNat).2 := by rw [hI]; simp only [inM, tolds]
theorem gi15u (g : Gh) (a b : Int) : ν.I.gi 15 g a b = (getC g.s (a + b)).x := by rw [hI]; simp only [inM]
theorem gi15 (g : SG) (a b : SI) : (SI.gi 15 g a b).den ν = (getC (g.den ν).s (a.den ν + b.den ν)).x := by
  simp only [SI.den, hI, inM]
theorem x70 (g h : SG) (a b c d : SI) (l : SL) : (SG.app 70 g h a b c d l).den ν = ⟨(getC (g.den ν).s (a.den ν + b.den ν)).x, 0, decide (0 < (getC (g.den ν).s (a.den ν + b.den ν)).x), (getC (g.den ν).s (a.den ν + b.den ν)).l, [], [], 0⟩ := by
  simp [SG.den, hI, inM, xga]
theorem x83 (g h : SG) (a b c d : SI) (l : SL) : (SB.gb 0 (.app 83 g h a b c d l) (.lit 0) (.lit 0)).den ν = (g.den ν).t.all fun q => decide (0 ≤ q.1 ∧ q.1 < 18446744073709551616) := by
  simp [SB.den, SG.den, hI, inM, xga]
end
theorem tolds_u64 {t : List (Int × Int × Int × Int)} (h : (t.all fun q => decide (0 ≤ q.1 ∧ q.1 < 18446744073709551616)) = true) (j : Nat) : 0 ≤ (tolds t j).1 ∧ (tolds t j).1 < 18446744073709551616 := by
  unfold tolds
  simp only
  rw [List.getD_eq_getElem?_getD]
  cases hx : t[j]? with
  | none => simp
  | some q => exact of_decide_eq_true (List.all_eq_true.1 h q (List.mem_of_getElem? hx))
/-! words -/
theorem lo_wrap {u : Int} (h0 : 0 ≤ u) : IntKind.u32.wrap (u.tmod 4294967296) = loW u := by
  rw [IntKind.wrap_u32]; unfold loW; rw [Int.tmod_eq_emod_of_nonneg h0]; omega
theorem lo_wrap2 (u : Int) : IntKind.u32.wrap u = loW u := by
  rw [IntKind.wrap_u32]; rfl
theorem loW_bd (u : Int) : 0 ≤ loW u ∧ loW u < 4294967296 := by unfold loW; omega
theorem pair_ref {h lo : Int} (h0 : 0 ≤ h) (l0 : 0 ≤ lo) (l1 : lo < 4294967296) : IntKind.u64.wrap (IntKind.u64.wrap (IntKind.u32.wrap (IntKind.u32.wrap (IntKind.u64.wrap (h.tdiv 4294967296)) + 1) * 4294967296) + lo) = pairW (h / 4294967296 + 1) lo := by
  simp only [IntKind.wrap_u64, IntKind.wrap_u32]
  rw [Int.tdiv_eq_ediv_of_nonneg h0]
  unfold pairW
  omega
theorem or_pair {a lo : Int} (a0 : 0 ≤ a) (a1 : a < 4294967296) (l0 : 0 ≤ lo) (l1 : lo < 4294967296) : bitsDen 1 .u64 (a * 4294967296) lo = a * 4294967296 + lo := by
  obtain ⟨m, rfl⟩ : ∃ m : Nat, a = m := ⟨a.toNat, by omega⟩
  obtain ⟨n, rfl⟩ : ∃ n : Nat, lo = n := ⟨lo.toNat, by omega⟩
  have e1 : (BitVec.ofInt 64 ((m : Int) * 4294967296)).toNat = 2 ^ 32 * m := by rw [BitVec.toNat_ofInt]; omega
  have e2 : (BitVec.ofInt 64 (n : Int)).toNat = n := by rw [BitVec.toNat_ofInt]; omega
  show IntKind.u64.wrap ((BitVec.ofInt 64 ((m : Int) * 4294967296) ||| BitVec.ofInt 64 (n : Int)).toNat : Int) = _
  rw [BitVec.toNat_or, e1, e2, ← Nat.two_pow_add_eq_or_of_lt (by omega), wrapU]
  omega
/-! an arena's machine -/
theorem A6.obs_len (at' : Int) (puts : Bool) (node : Int) (s : A6) : (A6.obs at' puts node s).length = 10 := by
  unfold A6.obs
  repeat' split
  all_goals rfl
end Go.Proofs.Ytlmenjenkpnacaa
end

section
namespace Go.Proofs.Ytlmenjenkpnacaa
open Go Go.Sy Go.RowKit

def f32S : Nat := 50
def frm32 (puts dn : Bool) (task st n code v : SI) : SBk := .cells [.int .i64 (.var 0), .int .i64 (.var 1), .bool (.lit puts), .int .u64 task, .int .i64 st, .int .u64 n, .bool (.lit dn), .int .i64 code, .int .u64 v, .nilSl] 155 true
/-- a lane that may be -/
def right32 : PC := [(.lt (.var 0) (.lit 0), false), (.lt (.var 0) (.sub (.lit 65535) (.mul (.lit 2) (.var 1))), true), (.lt (.var 1) (.lit 2), false), (.lt (.lit 256) (.var 1), false), (powB (.var 1), true)]
def u64D (e : SI) : PC := [(.lt e (.lit 0), false), (.lt e (.lit 18446744073709551616), true)]
def n32 : Nat := nmAt 3
def t32 (puts dn : Bool) : Tmpl := ⟨[.ptr 0 (.lit 0), tldV], (if dn then [] else right32) ++ (if puts then u64D (.var 3) else []) ++ tldPC, [(0, frm32 puts dn (if puts then .var 3 else .lit 0) (.lit 1) (.lit 0) (.lit (if dn then 2 else 0)) (.lit 0)), (1, tldT)]⟩
def e32 (P : Program) (puts dn : Bool) : Leaf := capN 0 (capAll P (oSt P) f32S 3 (t32 puts dn).args (t32 puts dn).pc (t32 puts dn).hp)
def heads32 (P : Program) (puts dn : Bool) : List Tgt := let L := e32 P puts dn
  let fr := ((keepFr [0, 1] L.fr).set 5 (svN (n32 + 6))).set 6 (.int .i64 (.var n32))
  let pc := [(.lt (.var n32) (.lit 0), false), (.lt (.add (.var 7) (.lit 1)) (.var n32), false), (.lt (.lit 201) (rowsS (stN (n32 + 6))), false)]
  let task : SI := if puts then .var 3 else .var (n32 + 3)
  [⟨.normal, fr, [(0, frm32 puts false task (.var (n32 + 1)) (.var (n32 + 2)) (.lit 0) (.lit 0)), (1, tldT), (n32 + 6, bkN (n32 + 6))], pc ++ u64D (.var (n32 + 2)) ++ [(.lt (.var (n32 + 1)) (.lit 1), false), (.lt (.lit 5) (.var (n32 + 1)), false)] ++ (if puts then [] else u64D (.var (n32 + 3))) ++ (if dn then [(.lit false, true)] else []) ++ L.pc⟩,
   ⟨.normal, fr, [(0, frm32 puts true task (.var (n32 + 1)) (.var (n32 + 2)) (.var (n32 + 4)) (.var (n32 + 5))), (1, tldT), (n32 + 6, bkN (n32 + 6))], pc ++ L.pc⟩]
/-- the machine, as it begins -/
def beg32 (puts dn : Bool) : SL := .cons (.var 0) (.cons (.var 1) (.cons (.lit (if puts then 1 else 0)) (.cons (if puts then .var 3 else .lit 0) (.cons (.lit 1) (.cons (.lit 0) (.cons (.lit (if dn then 1 else 0)) (.cons (.lit (if dn then 2 else 0)) (.cons (.lit 0) .nil))))))))
/-- the rows are those that the machine shows -/
def seen32B (n : Nat) (l : SL) : SB := .gb 0 (.app 76 (.var n) (.app 81 (.var 1) (.var 0) (.add (.var 7) (.lit 1)) (.lit 0) (.lit 0) (.lit 0) l) (.lit 0) (.lit 0) (.lit 0) (.lit 0) .nil) (.lit 0) (.lit 0)
def g32 (P : Program) (puts dn : Bool) : List Tgt := [⟨.exit 0, (keepFr [] (e32 P puts dn).fr).set 5 (svN (n32 + 6)), [(1, tldT), (n32 + 6, bkN (n32 + 6))], [(seen32B (n32 + 6) (beg32 puts dn), true), (.eq (rowsS (stN (n32 + 6))) (.add (.var 7) (.lit 1)), true)]⟩]
def bd32 (P : Program) (puts dn : Bool) : PC := (e32 P puts dn).pc.map fun x => (x.1, !x.2)
def body032 (P : Program) (puts dn : Bool) : Option (List Leaf) := codeX P (oSt P) LO7 SZ7 f32S 6000 0 (loopAt P f32S 3) (e32 P puts dn).fr ((bd32 P puts dn).map fun x => (x.1, !x.2)) (e32 P puts dn).hp
def hd32 (P : Program) (puts dn : Bool) (k : Nat) : Tgt := hdAt (heads32 P puts dn) k
def body32 (P : Program) (puts dn : Bool) (k : Nat) : Option (List Leaf) := codeX P (oSt P) LO7 SZ7 f32S 6000 0 (loopAt P f32S 3) (hd32 P puts dn k).fr ([] ++ (hd32 P puts dn k).pc) (hd32 P puts dn k).hp
def sums032 (P : Program) (puts dn : Bool) : Option (List SumT) := (body032 P puts dn).bind fun ls => sumsHd P n32 LO7 SZ7 (heads32 P puts dn) (g32 P puts dn) (ls.map withRows)
def sums32 (P : Program) (puts dn : Bool) (k : Nat) : Option (List SumT) := (body32 P puts dn k).bind fun ls => sumsHd P n32 LO7 SZ7 (heads32 P puts dn) (g32 P puts dn) (ls.map withRows)
end Go.Proofs.Ytlmenjenkpnacaa
end

section
namespace Go.Proofs.Ytlmenjenkpnacaa
open Go Go.Sy Go.RowKit

abbrev Td3 := List (Int × Int × Int × Int)
/-- the machine, as it begins -/
def b32 (puts dn : Bool) (ν : Env Gh) : A32 := ⟨1, 0, cond puts (ν.i 3) 0, dn, if dn then 2 else 0, 0⟩
def it32 (puts : Bool) (s0 : A32) (t : Td3) (j : Nat) : A32 := iterS (A32.step puts) s0 t j
def se32 (a size : Int) (puts : Bool) (s0 : A32) (t : Td3) (n : Nat) : List SC := seenR (A32.obs a size puts) (A32.step puts) s0 t n
theorem se32_eq (ν : Env Gh) (puts dn : Bool) (t : Td3) (n : Nat) : seen32 ((beg32 puts dn).den ν) t n = se32 (ν.i 0) (ν.i 1) puts (b32 puts dn ν) t n := by
  cases puts <;> cases dn <;> rfl
theorem obs32_len (a size : Int) (puts : Bool) (s : A32) : (A32.obs a size puts s).length = 10 := by
  unfold A32.obs
  dsimp only
  repeat' split
  all_goals rfl
theorem se32_succ (a size : Int) (puts : Bool) (s0 : A32) (t : Td3) (n : Nat) : se32 a size puts s0 t (n + 1) = se32 a size puts s0 t n ++ A32.obs a size puts (it32 puts s0 t n) := seenR_succ n
theorem se32_len (a size : Int) (puts : Bool) (s0 : A32) (t : Td3) (n : Nat) : (se32 a size puts s0 t n).length = n * 10 := seenR_length (obs32_len _ _ _) n
theorem it32_succ (puts : Bool) (s0 : A32) (t : Td3) (j : Nat) : it32 puts s0 t (j + 1) = A32.step puts (it32 puts s0 t j) (tolds t j).1 (tolds t j).2 := rfl
/-- how the machine goes on behind round i of so many -/
theorem it32_next (puts : Bool) (s0 : A32) (t : Td3) {i len : Int} (h0 : 0 ≤ i) (h1 : i ≤ len) : it32 puts s0 t (min (i + 1) len).toNat = if i < len then A32.step puts (it32 puts s0 t i.toNat) (tolds t i.toNat).1 (tolds t i.toNat).2 else it32 puts s0 t i.toNat := by
  by_cases h : i < len
  · rw [if_pos h]
    have : (min (i + 1) len).toNat = i.toNat + 1 := by omega
    rw [this, it32_succ]
  · rw [if_neg h]
    congr 1; omega
/-- what is refused stays so -/
theorem it32_over {puts : Bool} {s0 : A32} {t : Td3} (hd : s0.dn = true) : ∀ {j : Nat}, it32 puts s0 t j = s0
  | 0 => rfl
  | j + 1 => by
    rw [it32_succ, it32_over hd]
    unfold A32.step
    rw [if_pos hd]
theorem w64w64 (x : Int) : IntKind.i64.wrap (IntKind.u64.wrap x) = IntKind.i64.wrap x := by simp only [IntKind.wrap_i64, IntKind.wrap_u64]; omega
theorem w64s (x : Int) : IntKind.i64.wrap (IntKind.u64.wrap x - 1) = IntKind.i64.wrap (x - 1) := by simp only [IntKind.wrap_i64, IntKind.wrap_u64]; omega
/-- the machine at a frame's numbers -/
def live32 (s : A32) (st n task : Int) : Prop := s.dn = false ∧ s.st = st ∧ s.n = n ∧ s.task = task ∧ 1 ≤ st ∧ st ≤ 5 ∧ 0 ≤ n ∧ n < 18446744073709551616 ∧ 0 ≤ task ∧ task < 18446744073709551616
def over32 (s : A32) (c v : Int) : Prop := s.dn = true ∧ s.cd = c ∧ s.v = v
def J32 (puts dn : Bool) (k : Nat) (ν : Env Gh) (x : Vals Gh) : Prop :=
  1 ≤ x.i 0 ∧ x.i 0 ≤ ν.i 7 + 1 ∧ nG (x.g 6) = (se32 (ν.i 0) (ν.i 1) puts (b32 puts dn ν) (ν.g 1).t (x.i 0).toNat).map SC.nums ∧
  match k with
  | 0 => live32 (it32 puts (b32 puts dn ν) (ν.g 1).t (min (x.i 0) (ν.i 7)).toNat) (x.i 1) (x.i 2) (cond puts (ν.i 3) (x.i 3))
  | _ => over32 (it32 puts (b32 puts dn ν) (ν.g 1).t (min (x.i 0) (ν.i 7)).toNat) (x.i 4) (x.i 5)
end Go.Proofs.Ytlmenjenkpnacaa
end
