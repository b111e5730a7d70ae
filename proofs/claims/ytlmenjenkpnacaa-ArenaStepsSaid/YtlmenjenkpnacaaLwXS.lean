/- What is seen, step by step: its rows, the answers; the oracle. -/
import Derived.Test.YtlmenjenkpnacaaLwXA
import Derived.Test.YtlmenjenkpnacaaSyM
import Derived.Test.YtlmenjenkpnacaaLwXT
set_option linter.unusedVariables false
set_option linter.unusedSimpArgs false

section
namespace Go.Proofs.Ytlmenjenkpnacaa
open Go Go.Sy Go.RowKit

/-- the answers: a slice of structs that came in -/
def tldV : SV := .sl 1 (.var 8) (.var 7) (.var 9)
def tldT : SBk := .tab 10 (.var 1) [some .u64, none] (.var 8) (.var 7)
def tldPC : PC := [(.lt (.var 7) (.lit 0), false), (.lt (.lit 200) (.var 7), false), (.lt (.var 8) (.lit 0), false), (.gb 0 (.app 83 (.var 1) (.var 0) (.lit 0) (.lit 0) (.lit 0) (.lit 0) .nil) (.lit 0) (.lit 0), true)]
def ksSn : List Nat := [3, 3, 7, 7, 8, 3, 7, 10, 8, 10]
/-- rows that a name tells -/
def stN (n : Nat) : St := ⟨.var n, 121, 10, .var n, ksL ksSn⟩
def svN (n : Nat) : SV := .sl n (.lit 0) (rowsS (stN n)) (.var n)
def bkN (n : Nat) : SBk := .res (stN n).full
def oSt (P : Program) : Orac := (((((qO.withOp (opSliceT P)).withOp (opAppendW P)).withOp (opLoadS P)).withOp (opAppS P)).withOp (opLoadSt P)).pruned P
end Go.Proofs.Ytlmenjenkpnacaa
end

section
namespace Go.Proofs.Ytlmenjenkpnacaa
open Go Go.Sy Go.RowKit

theorem getC_nums {a b : List SC} (h : a.map SC.nums = b.map SC.nums) (k : Int) : (getC a k).x = (getC b k).x ∧ (getC a k).l = (getC b k).l := by
  have h1 : (a.map SC.nums)[k.toNat]? = (b.map SC.nums)[k.toNat]? := by rw [h]
  rw [List.getElem?_map, List.getElem?_map] at h1
  unfold getC
  rw [List.getD_eq_getElem?_getD, List.getD_eq_getElem?_getD]
  cases ha : a[k.toNat]? <;> cases hb : b[k.toNat]? <;> rw [ha, hb] at h1
  · exact ⟨rfl, rfl⟩
  · cases h1
  · cases h1
  · rename_i x y
    simp only [Option.map_some, Option.some.injEq, SC.nums, Prod.mk.injEq] at h1
    exact ⟨h1.2.1, h1.2.2⟩
section
variable {σ : Type} {obs : σ → List SC} {step : σ → Int → Bool → σ} {s0 : σ} {t : List (Int × Int × Int × Int)}
theorem seenR_succ (n : Nat) : seenR obs step s0 t (n + 1) = seenR obs step s0 t n ++ obs (iterS step s0 t n) := by
  simp [seenR, List.range_succ]
theorem seenR_zero : seenR obs step s0 t 0 = [] := rfl
theorem seenR_length (h : ∀ s, (obs s).length = 10) : ∀ n, (seenR obs step s0 t n).length = n * 10
  | 0 => rfl
  | n + 1 => by rw [seenR_succ, List.length_append, seenR_length h n, h]; omega
theorem seenR_get (h : ∀ s, (obs s).length = 10) {i j : Nat} (hj : j < 10) : ∀ {n : Nat}, i < n → (seenR obs step s0 t n)[i * 10 + j]? = (obs (iterS step s0 t i))[j]?
  | 0, hi => by omega
  | n + 1, hi => by
    rw [seenR_succ, List.getElem?_append, seenR_length h]
    by_cases hlt : i < n
    · rw [if_pos (by omega), seenR_get h hj hlt]
    · have : i = n := by omega
      subst this
      rw [if_neg (by omega)]
      congr 1; omega
theorem seenR_getC (h : ∀ s, (obs s).length = 10) {i j : Int} (h0 : 0 ≤ i) (j0 : 0 ≤ j) (hj : j < 10) {n : Nat} (hi : i < n) : getC (seenR obs step s0 t n) (i * 10 + j) = getC (obs (iterS step s0 t i.toNat)) j := by
  unfold getC
  have e : (i * 10 + j).toNat = i.toNat * 10 + j.toNat := by omega
  rw [e, List.getD_eq_getElem?_getD, seenR_get h (by omega) (by omega), List.getD_eq_getElem?_getD]
end
theorem seenC_length (a b c d : Int) (w : Bool) (e f : Int) (o : Bool) (l : List Int) : (seenC a b c d w e f o l).length = 10 := rfl
/-! a ghost's cells, as numbers -/
def nG (g : Gh) : List (Nat × Int × List Int) := g.s.map SC.nums
theorem nG_len (g : Gh) : (nG g).length = g.s.length := by simp [nG]
section
variable {ν : Env Gh} (hI : ν.I = inM)
include hI
theorem nG73 (g h : SG) (a b c d : SI) (l : SL) : nG ((SG.app 73 g h a b c d l).den ν) = nG (g.den ν) ++ [((a.den ν).toNat, b.den ν, l.den ν)] := by
  simp [nG, SG.den, hI, inM, xga, SC.nums]
theorem nG1 (g h : SG) (a b c d : SI) : nG ((SG.app 1 g h a b c d .nil).den ν) = [] := by
  simp [nG, SG.den, hI, inM, ghL]
theorem gi17 (g h : SG) (e w c d : SI) (ks : SL) (a b : SI) : (SI.gi 17 (.app 78 g h e w c d ks) a b).den ν = (((nG (g.den ν)).length / (w.den ν).toNat : Nat) : Int) := by
  simp only [SI.den, SG.den, hI, inM, xga, nG_len]
theorem gi10 (g : SG) (a b : SI) : (SI.gi 10 g a b).den ν = (tolds (g.den ν).t (a.den ν).toNat).1 := by
  simp only [SI.den, hI, inM, tolds]
theorem gb11 (g : SG) (a b : SI) : (SB.gb 11 g a b).den ν = (tolds (g.den ν).t (a.den ν).toNat).2 := by
  simp only [SB.den, hI, inM, tolds]
theorem gi10u (g : Gh) (a b : Int) : ν.I.gi 10 g a b = (tolds g.t a.toNat).1 := by rw [hI]; simp only [inM, tolds]
theorem gb11u (g : Gh) (a b : Int) : ν.I.gb 11 g a b = (tolds g.t a.toNat).2 := by rw [hI]; simp only [inM, tolds]
theorem gi15u (g : Gh) (a b : Int) : ν.I.gi 15 g a b = (getC g.s (a + b)).x := by rw [hI]; simp only [inM]
theorem gi15 (g : SG) (a b : SI) : (SI.gi 15 g a b).den ν = (getC (g.den ν).s (a.den ν + b.den ν)).x := by
  simp only [SI.den, hI, inM]
theorem x70 (g h : SG) (a b c d : SI) (l : SL) : (SG.app 70 g h a b c d l).den ν = ⟨(getC (g.den ν).s (a.den ν + b.den ν)).x, 0, decide (0 < (getC (g.den ν).s (a.den ν + b.den ν)).x), (getC (g.den ν).s (a.den ν + b.den ν)).l, [], [], 0⟩ := by
  simp [SG.den, hI, inM, xga]
theorem x83 (g h : SG) (a b c d : SI) (l : SL) : (SB.gb 0 (.app 83 g h a b c d l) (.lit 0) (.lit 0)).den ν = (g.den ν).t.all fun q => decide (0 ≤ q.1 ∧ q.1 < 18446744073709551616) := by
  simp [SB.den, SG.den, hI, inM, xga]
end
theorem tolds_u64 {t : List (Int × Int × Int × Int)} (h : (t.all fun q => decide (0 ≤ q.1 ∧ q.1 < 18446744073709551616)) = true) (j : Nat) : 0 ≤ (tolds t j).1 ∧ (tolds t j).1 < 18446744073709551616 := by
  unfold tolds
  simp only
  rw [List.getD_eq_getElem?_getD]
  cases hx : t[j]? with
  | none => simp
  | some q => exact of_decide_eq_true (List.all_eq_true.1 h q (List.mem_of_getElem? hx))
/-! words -/
theorem lo_wrap {u : Int} (h0 : 0 ≤ u) : IntKind.u32.wrap (u.tmod 4294967296) = loW u := by
  rw [IntKind.wrap_u32]; unfold loW; rw [Int.tmod_eq_emod_of_nonneg h0]; omega
theorem lo_wrap2 (u : Int) : IntKind.u32.wrap u = loW u := by
  rw [IntKind.wrap_u32]; rfl
theorem loW_bd (u : Int) : 0 ≤ loW u ∧ loW u < 4294967296 := by unfold loW; omega
theorem pair_ref {h lo : Int} (h0 : 0 ≤ h) (l0 : 0 ≤ lo) (l1 : lo < 4294967296) : IntKind.u64.wrap (IntKind.u64.wrap (IntKind.u32.wrap (IntKind.u32.wrap (IntKind.u64.wrap (h.tdiv 4294967296)) + 1) * 4294967296) + lo) = pairW (h / 4294967296 + 1) lo := by
  simp only [IntKind.wrap_u64, IntKind.wrap_u32]
  rw [Int.tdiv_eq_ediv_of_nonneg h0]
  unfold pairW
  omega
theorem or_pair {a lo : Int} (a0 : 0 ≤ a) (a1 : a < 4294967296) (l0 : 0 ≤ lo) (l1 : lo < 4294967296) : bitsDen 1 .u64 (a * 4294967296) lo = a * 4294967296 + lo := by
  obtain ⟨m, rfl⟩ : ∃ m : Nat, a = m := ⟨a.toNat, by omega⟩
  obtain ⟨n, rfl⟩ : ∃ n : Nat, lo = n := ⟨lo.toNat, by omega⟩
  have e1 : (BitVec.ofInt 64 ((m : Int) * 4294967296)).toNat = 2 ^ 32 * m := by rw [BitVec.toNat_ofInt]; omega
  have e2 : (BitVec.ofInt 64 (n : Int)).toNat = n := by rw [BitVec.toNat_ofInt]; omega
  show IntKind.u64.wrap ((BitVec.ofInt 64 ((m : Int) * 4294967296) ||| BitVec.ofInt 64 (n : Int)).toNat : Int) = _
  rw [BitVec.toNat_or, e1, e2, ← Nat.two_pow_add_eq_or_of_lt (by omega), wrapU]
  omega
/-! an arena's machine -/
theorem A6.obs_len (at' : Int) (puts : Bool) (node : Int) (s : A6) : (A6.obs at' puts node s).length = 10 := by
  unfold A6.obs
  repeat' split
  all_goals rfl
end Go.Proofs.Ytlmenjenkpnacaa
end

section
namespace Go.Proofs.Ytlmenjenkpnacaa
open Go Go.Sy Go.RowKit

def fSn : Nat := 35
def frmSn (puts dn : Bool) (st h lk code v : SI) : SBk := .cells [.int .i64 (.var 0), .int .i64 (.var 1), .bool (.lit puts), .int .i64 (.var 3), .int .i64 st, .int .u64 h, .int .u64 lk, .bool (.lit dn), .int .i64 code, .int .u64 v, .nilSl] 133 true
def rightSn (puts : Bool) : PC := [(.lt (.var 0) (.lit 0), false), (.lt (.var 0) (.sub (.lit 65536) (.var 1)), true), (.lt (.var 1) (.lit 1), false), (.lt (.var 1) (.lit 4097), true)] ++ (if puts then [(.lt (.var 3) (.lit 1), false), (.lt (.var 1) (.var 3), false)] else [])
def tSn (puts dn : Bool) : Tmpl := ⟨[.ptr 0 (.lit 0), tldV], (if dn then [] else rightSn puts) ++ tldPC, [(0, frmSn puts dn (.lit 1) (.lit 0) (.lit 0) (.lit (if dn then 2 else 0)) (.lit 0)), (1, tldT)]⟩
def nSn : Nat := nmAt 3
def eSn (P : Program) (puts dn : Bool) : Leaf := capN 0 (capAll P (oSt P) fSn 3 (tSn puts dn).args (tSn puts dn).pc (tSn puts dn).hp)
def u64B (e : SI) : PC := [(.lt e (.lit 0), false), (.lt e (.lit 18446744073709551616), true)]
def headsSn (P : Program) (puts dn : Bool) : List Tgt := let L := eSn P puts dn
  let fr := ((keepFr [0, 1] L.fr).set 5 (svN (nSn + 6))).set 6 (.int .i64 (.var nSn))
  let pc := [(.lt (.var nSn) (.lit 0), false), (.lt (.add (.var 7) (.lit 1)) (.var nSn), false), (.lt (.lit 201) (rowsS (stN (nSn + 6))), false)]
  [⟨.normal, fr, [(0, frmSn puts false (.var (nSn + 1)) (.var (nSn + 2)) (.var (nSn + 3)) (.lit 0) (.lit 0)), (1, tldT), (nSn + 6, bkN (nSn + 6))], pc ++ u64B (.var (nSn + 2)) ++ u64B (.var (nSn + 3)) ++ (if dn then [(.lit false, true)] else []) ++ L.pc⟩,
   ⟨.normal, fr, [(0, frmSn puts true (.var (nSn + 1)) (.var (nSn + 2)) (.var (nSn + 3)) (.var (nSn + 4)) (.var (nSn + 5))), (1, tldT), (nSn + 6, bkN (nSn + 6))], pc ++ L.pc⟩]
/-- the machine, as it begins -/
def begSn (puts dn : Bool) : SL := .cons (.var 0) (.cons (.var 1) (.cons (.lit (if puts then 1 else 0)) (.cons (.var 3) (.cons (.lit 1) (.cons (.lit 0) (.cons (.lit 0) (.cons (.lit (if dn then 1 else 0)) (.cons (.lit (if dn then 2 else 0)) (.cons (.lit 0) .nil)))))))))
/-- the rows are those that the machine shows -/
def seenB (n : Nat) (l : SL) : SB := .gb 0 (.app 76 (.var n) (.app 80 (.var 1) (.var 0) (.add (.var 7) (.lit 1)) (.lit 0) (.lit 0) (.lit 0) l) (.lit 0) (.lit 0) (.lit 0) (.lit 0) .nil) (.lit 0) (.lit 0)
def gSn (P : Program) (puts dn : Bool) : List Tgt := [⟨.exit 0, (keepFr [] (eSn P puts dn).fr).set 5 (svN (nSn + 6)), [(1, tldT), (nSn + 6, bkN (nSn + 6))], [(seenB (nSn + 6) (begSn puts dn), true), (.eq (rowsS (stN (nSn + 6))) (.add (.var 7) (.lit 1)), true)]⟩]
def bdSn (P : Program) (puts dn : Bool) : PC := (eSn P puts dn).pc.map fun x => (x.1, !x.2)
def body0Sn (P : Program) (puts dn : Bool) : Option (List Leaf) := codeX P (oSt P) LO7 SZ7 fSn 6000 0 (loopAt P fSn 3) (eSn P puts dn).fr ((bdSn P puts dn).map fun x => (x.1, !x.2)) (eSn P puts dn).hp
def hdSn (P : Program) (puts dn : Bool) (k : Nat) : Tgt := hdAt (headsSn P puts dn) k
def bodySn (P : Program) (puts dn : Bool) (k : Nat) : Option (List Leaf) := codeX P (oSt P) LO7 SZ7 fSn 6000 0 (loopAt P fSn 3) (hdSn P puts dn k).fr ([] ++ (hdSn P puts dn k).pc) (hdSn P puts dn k).hp
def sums0Sn (P : Program) (puts dn : Bool) : Option (List SumT) := (body0Sn P puts dn).bind fun ls => sumsHd P nSn LO7 SZ7 (headsSn P puts dn) (gSn P puts dn) (ls.map withRows)
def sumsSn (P : Program) (puts dn : Bool) (k : Nat) : Option (List SumT) := (bodySn P puts dn k).bind fun ls => sumsHd P nSn LO7 SZ7 (headsSn P puts dn) (gSn P puts dn) (ls.map withRows)
end Go.Proofs.Ytlmenjenkpnacaa
end

section
namespace Go.Proofs.Ytlmenjenkpnacaa
open Go Go.Sy Go.RowKit

abbrev Tds := List (Int × Int × Int × Int)
def s6 (dn : Bool) : A6 := ⟨1, 0, 0, dn, if dn then 2 else 0, 0⟩
def it6 (N : Int) (puts dn : Bool) (t : Tds) (j : Nat) : A6 := iterS (A6.step N puts) (s6 dn) t j
def se6 (a N : Int) (puts : Bool) (node : Int) (dn : Bool) (t : Tds) (n : Nat) : List SC := seenR (A6.obs a puts node) (A6.step N puts) (s6 dn) t n
theorem se6_eq (ν : Env Gh) (puts dn : Bool) (t : Tds) (n : Nat) : seen6 ((begSn puts dn).den ν) t n = se6 (ν.i 0) (ν.i 1) puts (ν.i 3) dn t n := by
  cases puts <;> cases dn <;> rfl
theorem se6_succ (a N : Int) (puts : Bool) (node : Int) (dn : Bool) (t : Tds) (n : Nat) : se6 a N puts node dn t (n + 1) = se6 a N puts node dn t n ++ A6.obs a puts node (it6 N puts dn t n) := seenR_succ n
theorem se6_len (a N : Int) (puts : Bool) (node : Int) (dn : Bool) (t : Tds) (n : Nat) : (se6 a N puts node dn t n).length = n * 10 := seenR_length (A6.obs_len _ _ _) n
theorem it6_succ (N : Int) (puts dn : Bool) (t : Tds) (j : Nat) : it6 N puts dn t (j + 1) = A6.step N puts (it6 N puts dn t j) (tolds t j).1 (tolds t j).2 := rfl
/-- how the machine goes on behind round i of so many -/
theorem it6_next (N : Int) (puts dn : Bool) (t : Tds) {i len : Int} (h0 : 0 ≤ i) (h1 : i ≤ len) : it6 N puts dn t (min (i + 1) len).toNat = if i < len then A6.step N puts (it6 N puts dn t i.toNat) (tolds t i.toNat).1 (tolds t i.toNat).2 else it6 N puts dn t i.toNat := by
  by_cases h : i < len
  · rw [if_pos h]
    have : (min (i + 1) len).toNat = i.toNat + 1 := by omega
    rw [this, it6_succ]
  · rw [if_neg h]
    congr 1; omega
/-- what is refused stays so -/
theorem it6_over {N : Int} {puts dn : Bool} {t : Tds} (hd : dn = true) : ∀ {j : Nat}, it6 N puts dn t j = s6 dn
  | 0 => rfl
  | j + 1 => by
    rw [it6_succ, it6_over hd, hd]
    rfl
/-- the machine at a frame's numbers -/
def live6 (s : A6) (st h lk : Int) : Prop := s.dn = false ∧ s.st = st ∧ s.h = h ∧ s.lk = lk ∧ 1 ≤ st ∧ st ≤ 3 ∧ 0 ≤ h ∧ h < 18446744073709551616 ∧ 0 ≤ lk ∧ lk < 18446744073709551616
def over6 (s : A6) (c v : Int) : Prop := s.dn = true ∧ s.cd = c ∧ s.v = v
def JSn (puts dn : Bool) (k : Nat) (ν : Env Gh) (x : Vals Gh) : Prop :=
  1 ≤ x.i 0 ∧ x.i 0 ≤ ν.i 7 + 1 ∧ nG (x.g 6) = (se6 (ν.i 0) (ν.i 1) puts (ν.i 3) dn (ν.g 1).t (x.i 0).toNat).map SC.nums ∧
  match k with
  | 0 => live6 (it6 (ν.i 1) puts dn (ν.g 1).t (min (x.i 0) (ν.i 7)).toNat) (x.i 1) (x.i 2) (x.i 3)
  | _ => over6 (it6 (ν.i 1) puts dn (ν.g 1).t (min (x.i 0) (ν.i 7)).toNat) (x.i 4) (x.i 5)
/-- the rows behind one more round -/
theorem nG_next {a N : Int} {puts : Bool} {node : Int} {dn : Bool} {t : Tds} {i : Int} {G G' : List (Nat × Int × List Int)} {T : List (Nat × Int × List Int)} (h0 : 0 ≤ i) (hG : G = (se6 a N puts node dn t i.toNat).map SC.nums) (hG' : G' = G ++ T) (hT : T = (A6.obs a puts node (it6 N puts dn t i.toNat)).map SC.nums) : G' = (se6 a N puts node dn t (i + 1).toNat).map SC.nums := by
  have : (i + 1).toNat = i.toNat + 1 := by omega
  rw [this, se6_succ, List.map_append, hG', hG, hT]
end Go.Proofs.Ytlmenjenkpnacaa
end
