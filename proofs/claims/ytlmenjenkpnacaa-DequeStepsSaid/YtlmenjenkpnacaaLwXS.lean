/- What is seen, step by step: its rows, the answers; the oracle. -/
import Derived.Test.YtlmenjenkpnacaaLwXA
import Derived.Test.YtlmenjenkpnacaaSyM
import Derived.Test.YtlmenjenkpnacaaLwXT
set_option linter.unusedVariables false
set_option linter.unusedSimpArgs false

section
namespace Go.Proofs.Ytlmenjenkpnacaa
open Go Go.Sy Go.RowKit

/-- the answers: a slice of structs that came in -/
def tldV : SV := .sl 1 (.var 8) (.var 7) (.var 9)
def tldT : SBk := .tab 10 (.var 1) [some .u64, none] (.var 8) (.var 7)
def tldPC : PC := [(.lt (.var 7) (.lit 0), false), (.lt (.lit 200) (.var 7), false), (.lt (.var 8) (.lit 0), false), (.gb 0 (.app 83 (.var 1) (.var 0) (.lit 0) (.lit 0) (.lit 0) (.lit 0) .nil) (.lit 0) (.lit 0), true)]
def ksSn : List Nat := [3, 3, 7, 7, 8, 3, 7, 10, 8, 10]
/-- rows that a name tells -/
def stN (n : Nat) : St := ⟨.var n, 121, 10, .var n, ksL ksSn⟩
def svN (n : Nat) : SV := .sl n (.lit 0) (rowsS (stN n)) (.var n)
def bkN (n : Nat) : SBk := .res (stN n).full
def oSt (P : Program) : Orac := (((((qO.withOp (opSliceT P)).withOp (opAppendW P)).withOp (opLoadS P)).withOp (opAppS P)).withOp (opLoadSt P)).pruned P
end Go.Proofs.Ytlmenjenkpnacaa
end

section
namespace Go.Proofs.Ytlmenjenkpnacaa
open Go Go.Sy Go.RowKit

theorem getC_nums {a b : List SC} (h : a.map SC.nums = b.map SC.nums) (k : Int) : (getC a k).x = (getC b k).x ∧ (getC a k).l = (getC b k).l := by
  have h1 : (a.map SC.nums)[k.toNat]? = (b.map SC.nums)[k.toNat]? := by rw [h]
  rw [List.getElem?_map, List.getElem?_map] at h1
  unfold getC
  rw [List.getD_eq_getElem?_getD, List.getD_eq_getElem?_getD]
  cases ha : a[k.toNat]? <;> cases hb : b[k.toNat]? <;> rw [ha, hb] at h1
  · exact ⟨rfl, rfl⟩
  · cases h1
  · cases h1
  · rename_i x y
    simp only [Option.map_some, Option.some.injEq, SC.nums, Prod.mk.injEq] at h1
    exact ⟨h1.2.1, h1.2.2⟩
section
variable {σ : Type} {obs : σ → List SC} {step : σ → Int → Bool → σ} {s0 : σ} {t : List (Int × Int × Int × Int)}
theorem seenR_succ (n : Nat) : seenR obs step s0 t (n + 1) = seenR obs step s0 t n ++ obs (iterS step s0 t n) := by
  simp [seenR, List.range_succ]
theorem seenR_zero : seenR obs step s0 t 0 = [] := rfl
theorem seenR_length (h : ∀ s, (obs s).length = 10) : ∀ n, (seenR obs step s0 t n).length = n * 10
  | 0 => rfl
  | n + 1 => by rw [seenR_succ, List.length_append, seenR_length h n, h]; omega
theorem seenR_get (h : ∀ s, (obs s).length = 10) {i j : Nat} (hj : j < 10) : ∀ {n : Nat}, i < n → (seenR obs step s0 t n)[i * 10 + j]? = (obs (iterS step s0 t i))[j]?
  | 0, hi => by omega
  | n + 1, hi => by
    rw [seenR_succ, List.getElem?_append, seenR_length h]
    by_cases hlt : i < n
    · rw [if_pos (by omega), seenR_get h hj hlt]
    · have : i = n := by omega
      subst this
      rw [if_neg (by omega)]
      congr 1; omega
theorem seenR_getC (h : ∀ s, (obs s).length = 10) {i j : Int} (h0 : 0 ≤ i) (j0 : 0 ≤ j) (hj : j < 10) {n : Nat} (hi : i < n) : getC (seenR obs step s0 t n) (i * 10 + j) = getC (obs (iterS step s0 t i.toNat)) j := by
  unfold getC
  have e : (i * 10 + j).toNat = i.toNat * 10 + j.toNat := by omega
  rw [e, List.getD_eq_getElem?_getD, seenR_get h (by omega) (by omega), List.getD_eq_getElem?_getD]
end
theorem seenC_length (a b c d : Int) (w : Bool) (e f : Int) (o : Bool) (l : List Int) : (seenC a b c d w e f o l).length = 10 := rfl
/-! a ghost's cells, as numbers -/
def nG (g : Gh) : List (Nat × Int × List Int) := g.s.map SC.nums
theorem nG_len (g : Gh) : (nG g).length = g.s.length := by simp [nG]
section
variable {ν : Env Gh} (hI : ν.I = inM)
include hI
theorem nG73 (g h : SG) (a b c d : SI) (l : SL) : nG ((SG.app 73 g h a b c d l).den ν) = nG (g.den ν) ++ [((a.den ν).toNat, b.den ν, l.den ν)] := by
  simp [nG, SG.den, hI, inM, xga, SC.nums]
theorem nG1 (g h : SG) (a b c d : SI) : nG ((SG.app 1 g h a b c d .nil).den ν) = [] := by
  simp [nG, SG.den, hI, inM, ghL]
theorem gi17 (g h : SG) (e w c d : SI) (ks : SL) (a b : SI) : (SI.gi 17 (.app 78 g h e w c d ks) a b).den ν = (((nG (g.den ν)).length / (w.den ν).toNat : Nat) : Int) := by
  simp only [SI.den, SG.den, hI, inM, xga, nG_len]
theorem gi10 (g : SG) (a b : SI) : (SI.gi 10 g a b).den ν = (tolds (g.den ν).t (a.den ν).toNat).1 := by
  simp only [SI.den, hI, inM, tolds]
theorem gb11 (g : SG) (a b : SI) : (SB.gb 11 g a b).den ν = (tolds (g.den ν).t (a.den ν).toNat).2 := by
  simp only [SB.den, hI, inM, tolds]
theorem gi10u (g : Gh) (a b : Int) : ν.I.gi 10 g a b = (tolds g.t a.toNat).1 := by rw [hI]; simp only [inM, tolds]
theorem gb11u (g : Gh) (a b : Int) : ν.I.gb 11 g a b = (tolds g.t a.toNat).2 := by rw [hI]; simp only [inM, tolds]
theorem gi15u (g : Gh) (a b : Int) : ν.I.gi 15 g a b = (getC g.s (a + b)).x := by rw [hI]; simp only [inM]
theorem gi15 (g : SG) (a b : SI) : (SI.gi 15 g a b).den ν = (getC (g.den ν).s (a.den ν + b.den ν)).x := by
  simp only [SI.den, hI, inM]
theorem x70 (g h : SG) (a b c d : SI) (l : SL) : (SG.app 70 g h a b c d l).den ν = ⟨(getC (g.den ν).s (a.den ν + b.den ν)).x, 0, decide (0 < (getC (g.den ν).s (a.den ν + b.den ν)).x), (getC (g.den ν).s (a.den ν + b.den ν)).l, [], [], 0⟩ := by
  simp [SG.den, hI, inM, xga]
theorem x83 (g h : SG) (a b c d : SI) (l : SL) : (SB.gb 0 (.app 83 g h a b c d l) (.lit 0) (.lit 0)).den ν = (g.den ν).t.all fun q => decide (0 ≤ q.1 ∧ q.1 < 18446744073709551616) := by
  simp [SB.den, SG.den, hI, inM, xga]
end
theorem tolds_u64 {t : List (Int × Int × Int × Int)} (h : (t.all fun q => decide (0 ≤ q.1 ∧ q.1 < 18446744073709551616)) = true) (j : Nat) : 0 ≤ (tolds t j).1 ∧ (tolds t j).1 < 18446744073709551616 := by
  unfold tolds
  simp only
  rw [List.getD_eq_getElem?_getD]
  cases hx : t[j]? with
  | none => simp
  | some q => exact of_decide_eq_true (List.all_eq_true.1 h q (List.mem_of_getElem? hx))
/-! words -/
theorem lo_wrap {u : Int} (h0 : 0 ≤ u) : IntKind.u32.wrap (u.tmod 4294967296) = loW u := by
  rw [IntKind.wrap_u32]; unfold loW; rw [Int.tmod_eq_emod_of_nonneg h0]; omega
theorem lo_wrap2 (u : Int) : IntKind.u32.wrap u = loW u := by
  rw [IntKind.wrap_u32]; rfl
theorem loW_bd (u : Int) : 0 ≤ loW u ∧ loW u < 4294967296 := by unfold loW; omega
theorem pair_ref {h lo : Int} (h0 : 0 ≤ h) (l0 : 0 ≤ lo) (l1 : lo < 4294967296) : IntKind.u64.wrap (IntKind.u64.wrap (IntKind.u32.wrap (IntKind.u32.wrap (IntKind.u64.wrap (h.tdiv 4294967296)) + 1) * 4294967296) + lo) = pairW (h / 4294967296 + 1) lo := by
  simp only [IntKind.wrap_u64, IntKind.wrap_u32]
  rw [Int.tdiv_eq_ediv_of_nonneg h0]
  unfold pairW
  omega
theorem or_pair {a lo : Int} (a0 : 0 ≤ a) (a1 : a < 4294967296) (l0 : 0 ≤ lo) (l1 : lo < 4294967296) : bitsDen 1 .u64 (a * 4294967296) lo = a * 4294967296 + lo := by
  obtain ⟨m, rfl⟩ : ∃ m : Nat, a = m := ⟨a.toNat, by omega⟩
  obtain ⟨n, rfl⟩ : ∃ n : Nat, lo = n := ⟨lo.toNat, by omega⟩
  have e1 : (BitVec.ofInt 64 ((m : Int) * 4294967296)).toNat = 2 ^ 32 * m := by rw [BitVec.toNat_ofInt]; omega
  have e2 : (BitVec.ofInt 64 (n : Int)).toNat = n := by rw [BitVec.toNat_ofInt]; omega
  show IntKind.u64.wrap ((BitVec.ofInt 64 ((m : Int) * 4294967296) ||| BitVec.ofInt 64 (n : Int)).toNat : Int) = _
  rw [BitVec.toNat_or, e1, e2, ← Nat.two_pow_add_eq_or_of_lt (by omega), wrapU]
  omega
/-! an arena's machine -/
theorem A6.obs_len (at' : Int) (puts : Bool) (node : Int) (s : A6) : (A6.obs at' puts node s).length = 10 := by
  unfold A6.obs
  repeat' split
  all_goals rfl
end Go.Proofs.Ytlmenjenkpnacaa
end

section
namespace Go.Proofs.Ytlmenjenkpnacaa
open Go Go.Sy Go.RowKit

def f7S : Nat := 57
def oSt7 (P : Program) : Orac := ((((((qO.withOp (opSliceT P)).withOp (opAppendW P)).withOp (opLoadS P)).withOp (opAppS P)).withOp (opLoadSt P)).withOp (opStoreB P)).pruned P
def kd7 (kd : Nat) : SI := match kd with
  | 0 => .var 13
  | k => .lit k
def frm7 (kd : Nat) (st b t x : SI) (won dn : Bool) (code v : SI) : SBk := .cells [.int .i64 (.var 0), .int .i64 (.var 1), .int .i64 (kd7 kd), .int .u64 (.var 3), .int .i64 st, .int .u64 b, .int .u64 t, .int .u64 x, .bool (.lit won), .bool (.lit dn), .int .i64 code, .int .u64 v, .nilSl] 161 true
/-- a deque that may be -/
def right7 : PC := [(.lt (.var 0) (.lit 0), false), (.lt (.var 0) (.sub (.lit 65535) (.mul (.lit 1) (.var 1))), true), (.lt (.var 1) (.lit 2), false), (.lt (.lit 256) (.var 1), false), (powB (.var 1), true)]
def u64E (e : SI) : PC := [(.lt e (.lit 0), false), (.lt e (.lit 18446744073709551616), true)]
def n7 : Nat := nmAt 3
def dn7 (kd : Nat) : Bool := Nat.beq kd 0
def t7 (kd : Nat) : Tmpl := ⟨[.ptr 0 (.lit 0), tldV], (if dn7 kd then [] else right7 ++ u64E (.var 3)) ++ tldPC, [(0, frm7 kd (.lit 1) (.lit 0) (.lit 0) (.lit 0) false (dn7 kd) (.lit (if dn7 kd then 2 else 0)) (.lit 0)), (1, tldT)]⟩
def e7 (P : Program) (kd : Nat) : Leaf := capN 0 (capAll P (oSt7 P) f7S 3 (t7 kd).args (t7 kd).pc (t7 kd).hp)
/-- a head's step, its 'won'; none: it has ended (with 'won') -/
def hdS (kd k : Nat) : Option (Option Int × Bool) := match kd, k with
  | 0, 0 => some (none, false)
  | 0, _ => none
  | 2, 5 => some (some 6, true)
  | 2, 6 => some (some 6, false)
  | 2, 7 => some (none, false)
  | 2, 8 => some (none, true)
  | 2, k => if Nat.ble 9 k then none else some (some (k + 1), false)
  | _, 4 => some (none, false)
  | _, k => if Nat.ble 5 k then none else some (some (k + 1), false)
def cnt7 (kd : Nat) : Nat := match kd with | 0 => 1 | 2 => 9 | _ => 5
def bas7 : PC := [(.lt (.var n7) (.lit 0), false), (.lt (.add (.var 7) (.lit 1)) (.var n7), false), (.lt (.lit 201) (rowsS (stN (n7 + 6))), false)]
def liv7 : PC := u64E (.var (n7 + 1)) ++ u64E (.var (n7 + 2)) ++ u64E (.var (n7 + 3))
def heads7 (P : Program) (kd : Nat) : List Tgt := let L := e7 P kd
  let fr := ((keepFr [0, 1] L.fr).set 5 (svN (n7 + 6))).set 6 (.int .i64 (.var n7))
  (List.range (cnt7 kd)).map fun k => match hdS kd k with
    | some (some st, won) => ⟨.normal, fr, [(0, frm7 kd (.lit st) (.var (n7 + 1)) (.var (n7 + 2)) (.var (n7 + 3)) won false (.lit 0) (.lit 0)), (1, tldT), (n7 + 6, bkN (n7 + 6))], bas7 ++ liv7 ++ L.pc⟩
    | some (none, won) => ⟨.normal, fr, [(0, frm7 kd (.var (n7 + 7)) (.var (n7 + 1)) (.var (n7 + 2)) (.var (n7 + 3)) won true (.var (n7 + 4)) (.var (n7 + 5))), (1, tldT), (n7 + 6, bkN (n7 + 6))], bas7 ++ L.pc⟩
    | none => ⟨.normal, [], [], []⟩
/-- was it won? -/
def wonB : SB := .gb 11 (.var 1) (.var n7) (.lit 0)
def cs7 (kd k : Nat) : List PC := if Nat.beq kd 2 && Nat.beq k 4 then [[(wonB, true)], [(wonB, false)]] else [[]]
/-- the machine, as it begins -/
def beg7 (kd : Nat) : SL := match kd with
  | 0 => .cons (.lit 0) (.cons (.lit 0) (.cons (.lit 0) (.cons (.lit 0) (.cons (.lit 1) (.cons (.lit 0) (.cons (.lit 0) (.cons (.lit 0) (.cons (.lit 0) (.cons (.lit 1) (.cons (.lit 2) (.cons (.lit 0) .nil)))))))))))
  | k => .cons (.var 0) (.cons (.var 1) (.cons (.lit k) (.cons (if Nat.beq k 1 then .var 3 else .lit 0) (.cons (.lit 1) (.cons (.lit 0) (.cons (.lit 0) (.cons (.lit 0) (.cons (.lit 0) (.cons (.lit 0) (.cons (.lit 0) (.cons (.lit 0) .nil)))))))))))
/-- the rows are those that the machine shows -/
def seen7B (n : Nat) (l : SL) : SB := .gb 0 (.app 76 (.var n) (.app 82 (.var 1) (.var 0) (.add (.var 7) (.lit 1)) (.lit 0) (.lit 0) (.lit 0) l) (.lit 0) (.lit 0) (.lit 0) (.lit 0) .nil) (.lit 0) (.lit 0)
def g7 (P : Program) (kd : Nat) : List Tgt := [⟨.exit 0, (keepFr [] (e7 P kd).fr).set 5 (svN (n7 + 6)), [(1, tldT), (n7 + 6, bkN (n7 + 6))], [(seen7B (n7 + 6) (beg7 kd), true), (.eq (rowsS (stN (n7 + 6))) (.add (.var 7) (.lit 1)), true)]⟩]
def bd7 (P : Program) (kd : Nat) : PC := (e7 P kd).pc.map fun x => (x.1, !x.2)
def body07 (P : Program) (kd : Nat) : Option (List Leaf) := codeX P (oSt7 P) LO7 SZ7 f7S 6000 0 (loopAt P f7S 3) (e7 P kd).fr ((bd7 P kd).map fun x => (x.1, !x.2)) (e7 P kd).hp
def hd7 (P : Program) (kd k : Nat) : Tgt := hdAt (heads7 P kd) k
def c7 (kd k j : Nat) : PC := ((cs7 kd k)[j]?).getD []
def body7 (P : Program) (kd k j : Nat) : Option (List Leaf) := codeX P (oSt7 P) LO7 SZ7 f7S 6000 0 (loopAt P f7S 3) (hd7 P kd k).fr (c7 kd k j ++ (hd7 P kd k).pc) (hd7 P kd k).hp
def sums07 (P : Program) (kd : Nat) : Option (List SumT) := (body07 P kd).bind fun ls => sumsHd P n7 LO7 SZ7 (heads7 P kd) (g7 P kd) (ls.map withRows)
def sums7 (P : Program) (kd k j : Nat) : Option (List SumT) := (body7 P kd k j).bind fun ls => sumsHd P n7 LO7 SZ7 (heads7 P kd) (g7 P kd) (ls.map withRows)
end Go.Proofs.Ytlmenjenkpnacaa
end

section
namespace Go.Proofs.Ytlmenjenkpnacaa
open Go Go.Sy Go.RowKit

abbrev Td7 := List (Int × Int × Int × Int)
def p7 (kd : Nat) (v : Int) : Int := match kd with | 0 => 0 | _ => v
def tk7 (kd : Nat) (v : Int) : Int := match kd with | 1 => v | _ => 0
def kI (kd : Nat) : Int := match kd with | 0 => 0 | 1 => 1 | 2 => 2 | 3 => 3 | k => k
/-- the machine, as it begins; how it goes on; what is seen of it -/
def s7 (kd : Nat) : A7 := ⟨1, 0, 0, 0, false, dn7 kd, if dn7 kd then 2 else 0, 0⟩
def st7 (kd : Nat) (ν : Env Gh) : A7 → Int → Bool → A7 := A7.step (p7 kd (ν.i 1)) (kI kd)
def ob7 (kd : Nat) (ν : Env Gh) : A7 → List SC := A7.obs (p7 kd (ν.i 0)) (p7 kd (ν.i 1)) (kI kd) (tk7 kd (ν.i 3))
def it7 (kd : Nat) (ν : Env Gh) (t : Td7) (j : Nat) : A7 := iterS (st7 kd ν) (s7 kd) t j
def se7 (kd : Nat) (ν : Env Gh) (t : Td7) (n : Nat) : List SC := seenR (ob7 kd ν) (st7 kd ν) (s7 kd) t n
theorem dn7_0 : dn7 0 = true := rfl
theorem dn7_1 : dn7 1 = false := rfl
theorem dn7_2 : dn7 2 = false := rfl
theorem dn7_3 : dn7 3 = false := rfl
theorem se7_eq (ν : Env Gh) {kd : Nat} (hk : kd < 4) (t : Td7) (n : Nat) : seen7 ((beg7 kd).den ν) t n = se7 kd ν t n := by
  match kd, hk with
  | 0, _ => rfl
  | 1, _ => rfl
  | 2, _ => rfl
  | 3, _ => rfl
theorem A7.obs_len (a size kind task : Int) (s : A7) : (A7.obs a size kind task s).length = 10 := by
  unfold A7.obs
  dsimp only
  repeat' split
  all_goals rfl
theorem ob7_len (kd : Nat) (ν : Env Gh) (s : A7) : (ob7 kd ν s).length = 10 := A7.obs_len ..
theorem se7_succ (kd : Nat) (ν : Env Gh) (t : Td7) (n : Nat) : se7 kd ν t (n + 1) = se7 kd ν t n ++ ob7 kd ν (it7 kd ν t n) := seenR_succ n
theorem se7_len (kd : Nat) (ν : Env Gh) (t : Td7) (n : Nat) : (se7 kd ν t n).length = n * 10 := seenR_length (ob7_len _ _) n
theorem it7_succ (kd : Nat) (ν : Env Gh) (t : Td7) (j : Nat) : it7 kd ν t (j + 1) = st7 kd ν (it7 kd ν t j) (tolds t j).1 (tolds t j).2 := rfl
/-- how the machine goes on behind round i of so many -/
theorem it7_next (kd : Nat) (ν : Env Gh) (t : Td7) {i len : Int} (h0 : 0 ≤ i) (h1 : i ≤ len) : it7 kd ν t (min (i + 1) len).toNat = if i < len then st7 kd ν (it7 kd ν t i.toNat) (tolds t i.toNat).1 (tolds t i.toNat).2 else it7 kd ν t i.toNat := by
  by_cases h : i < len
  · rw [if_pos h]
    have : (min (i + 1) len).toNat = i.toNat + 1 := by omega
    rw [this, it7_succ]
  · rw [if_neg h]
    congr 1; omega
theorem w64_64 (x : Int) : IntKind.i64.wrap (IntKind.u64.wrap x) = IntKind.i64.wrap x := by simp only [IntKind.wrap_i64, IntKind.wrap_u64]; omega
/-- the machine at a head -/
def hS7 (kd k : Nat) (s : A7) (y : Vals Gh) : Prop := match hdS kd k with
  | some (some st, won) => s.dn = false ∧ s.st = st ∧ s.b = y.i 1 ∧ s.t = y.i 2 ∧ s.x = y.i 3 ∧ s.won = won ∧ 0 ≤ y.i 1 ∧ y.i 1 < 18446744073709551616 ∧ 0 ≤ y.i 2 ∧ y.i 2 < 18446744073709551616 ∧ 0 ≤ y.i 3 ∧ y.i 3 < 18446744073709551616
  | some (none, _) => s.dn = true ∧ s.cd = y.i 4 ∧ s.v = y.i 5
  | none => False
def J7 (kd k : Nat) (ν : Env Gh) (x : Vals Gh) : Prop :=
  1 ≤ x.i 0 ∧ x.i 0 ≤ ν.i 7 + 1 ∧ nG (x.g 6) = (se7 kd ν (ν.g 1).t (x.i 0).toNat).map SC.nums ∧ hS7 kd k (it7 kd ν (ν.g 1).t (min (x.i 0) (ν.i 7)).toNat) x
end Go.Proofs.Ytlmenjenkpnacaa
end
