/- Is a walk like what is seen: rows, cases. -/
import Derived.Test.YtlmenjenkpnacaaLwXS
import Derived.Test.YtlmenjenkpnacaaSyM
set_option linter.unusedVariables false
set_option linter.unusedSimpArgs false

section
namespace Go.Proofs.Ytlmenjenkpnacaa
open Go Go.Sy Go.RowKit

def fLk : Nat := 32
def fSame : Nat := 20
def nLk : Nat := nmAt 4
def oLk (P : Program) : Orac := ((((((((qO.withOp (opSliceT P)).withOp (opAppendW P)).withOp (opLoadS P)).withOp (opAppS P)).withOp (opLoadSt P)).withOp (opCap P)).withCallF fSame (eqNK P))).pruned P
def offLk : SI := .mul (.var nLk) (.lit 10)
def rowC (j : Int) : SI := .gi 15 (.var 2) offLk (.lit j)
def boolC (j : Int) : SB := .gb 0 (.app 70 (.var 2) (.var 2) offLk (.lit j) (.lit 0) (.lit 0) .nil) (.lit 0) (.lit 0)
def listC (j : Int) : SL := .gl 0 (.app 70 (.var 2) (.var 2) offLk (.lit j) (.lit 0) (.lit 0) .nil) (.lit 0) (.lit 0)
/-- a walk that asks, one that has ended -/
def askW (f : Nat) (arg : List SV) (held : SV) : SBk := .cells [.int .i64 (.var (nLk + 10)), .int .i64 (.var (nLk + 11)), .int .u64 (.var (nLk + 12)), .int .u64 (.var (nLk + 13)), .fn f arg [], .bool (.lit true), .nilPtr, .nilFunc, .bool (.lit false), .int .i64 (.lit 0), .int .u64 (.lit 0), .nilSl, held] 194 true
def endW : SBk := .cells [.int .i64 (.var (nLk + 10)), .int .i64 (.var (nLk + 11)), .int .u64 (.var (nLk + 12)), .int .u64 (.var (nLk + 13)), .nilFunc, .bool (.lit false), .nilPtr, .nilFunc, .bool (.lit true), .int .i64 (.var (nLk + 14)), .int .u64 (.var (nLk + 15)), .nilSl, .nilSl] 194 true
/-- the row at which it is looked -/
def caseA (held : SL) : PC := [(.lt (.var 7) (.var nLk), false), (.eq (.var (nLk + 10)) (rowC 0), true), (.eq (.var (nLk + 11)) (rowC 1), true), (.eq (.var (nLk + 12)) (rowC 2), true), (.eq (.var (nLk + 13)) (rowC 3), true), (.same (.lit true) (boolC 4), true), (.same (.lit false) (boolC 8), true), (eqX held (listC 9), true)]
def caseE : PC := [(.lt (.var 7) (.var nLk), false), (.eq (.lit 0) (rowC 0), true), (.eq (.lit 0) (rowC 1), true), (.eq (.lit 0) (rowC 2), true), (.eq (.lit 0) (rowC 3), true), (.same (.lit false) (boolC 4), true), (.same (.lit true) (boolC 8), true), (.eq (.var (nLk + 14)) (rowC 5), true), (.eq (.var (nLk + 15)) (rowC 6), true), (eqX .nil (listC 7), true), (eqX .nil (listC 9), true)]
def caseB : PC := [(.lt (.var 7) (.var nLk), true)]
def basLk : PC := [(.lt (.var nLk) (.lit 0), false), (.lt (.add (.var 7) (.lit 1)) (.var nLk), false)]
def frLk (fr : List SV) : List SV := (keepFr [0, 1, 2] fr).set 7 (.int .i64 (.var nLk))
def u64C (e : SI) : PC := [(.lt e (.lit 0), false), (.lt e (.lit 18446744073709551616), true)]
def gLk (fr : List SV) : List Tgt := [⟨.exit 0, keepFr [] fr, [(1, tldT)], []⟩, ⟨.ret, (keepFr [] fr).set 6 (.bool (.lit false)), [], [(.lit false, true)]⟩]
end Go.Proofs.Ytlmenjenkpnacaa
end

section
namespace Go.Proofs.Ytlmenjenkpnacaa
open Go Go.Sy Go.RowKit

def wTk (h : SI) : SBk := .cells [.int .i64 (.var 0), .int .i64 (.var 1), .ptr 0 (.lit 0), .int .u64 h] 127 true
def wPt (h : SI) : SBk := .cells [.int .i64 (.var 0), .int .i64 (.var 1), .ptr 0 (.lit 0), .int .i64 (.var 3), .int .u64 h] 137 true
def wOf (puts : Bool) (h : SI) : SBk := if puts then wPt h else wTk h
def nx6 (puts : Bool) (k : Nat) : Nat := match puts, k with
  | false, 0 => 84
  | false, 1 => 145
  | false, _ => 181
  | true, 0 => 91
  | true, 1 => 148
  | true, _ => 183
def begW (puts dn : Bool) : List (Nat × SBk) := if dn then [(0, .cells [.int .i64 (.lit 0), .int .i64 (.lit 0), .int .u64 (.lit 0), .int .u64 (.lit 0), .nilFunc, .bool (.lit false), .nilPtr, .nilFunc, .bool (.lit true), .int .i64 (.lit 2), .int .u64 (.lit 0), .nilSl, .nilSl] 194 true), (1, tldT), (2, bkN 2)]
  else [(0, .cells [.int .i64 (.lit 1), .int .i64 (.var 0), .int .u64 (.lit 0), .int .u64 (.lit 0), .fn (nx6 puts 0) [.ptr 3 (.lit 0)] [], .bool (.lit true), .nilPtr, .nilFunc, .bool (.lit false), .int .i64 (.lit 0), .int .u64 (.lit 0), .nilSl, .nilSl] 194 true), (1, tldT), (2, bkN 2), (3, wOf puts (.lit 0))]
/-- the machine, as it begins, by what a walk's frame tells -/
def begLk (puts dn : Bool) : SL := if dn then .cons (.lit 0) (.cons (.lit 0) (.cons (.lit 0) (.cons (.lit 0) (.cons (.lit 1) (.cons (.lit 0) (.cons (.lit 0) (.cons (.lit 1) (.cons (.lit 2) (.cons (.lit 0) .nil)))))))))
  else if puts then begSn true false else .cons (.var 0) (.cons (.var 1) (.cons (.lit 0) (.cons (.lit 0) (.cons (.lit 1) (.cons (.lit 0) (.cons (.lit 0) (.cons (.lit 0) (.cons (.lit 0) (.cons (.lit 0) .nil)))))))))
def tLk (puts dn : Bool) : Tmpl := ⟨[.ptr 0 (.lit 0), svN 2, tldV], [(seenB 2 (begLk puts dn), true), (.eq (rowsS (stN 2)) (.add (.var 7) (.lit 1)), true)] ++ (if dn then [] else rightSn puts) ++ tldPC, begW puts dn⟩
def eLk (P : Program) (puts dn : Bool) : Leaf := capN 0 (capAll P (oLk P) fLk 4 (tLk puts dn).args (tLk puts dn).pc (tLk puts dn).hp)
def headsLk (P : Program) (puts dn : Bool) : List Tgt := let L := eLk P puts dn
  let fr := frLk L.fr
  let dead : Tgt := ⟨.normal, fr, [(0, endW), (1, tldT), (2, bkN 2)], basLk ++ L.pc⟩
  let live (k : Nat) : Tgt := ⟨.normal, fr, [(0, askW (nx6 puts k) [.ptr 3 (.lit 0)] .nilSl), (1, tldT), (2, bkN 2), (3, wOf puts (.var (nLk + 2)))], basLk ++ u64C (.var (nLk + 2)) ++ L.pc⟩
  if dn then [dead] else [live 0, live 1, live 2, dead]
def casesLk (dn : Bool) : List (List PC) := if dn then [[caseE, caseB]] else [[caseA .nil, caseB], [caseA .nil, caseB], [caseA .nil, caseB], [caseE, caseB]]
def bdLk (P : Program) (puts dn : Bool) : PC := (eLk P puts dn).pc.map fun x => (x.1, !x.2)
def hdLk (P : Program) (puts dn : Bool) (k : Nat) : Tgt := hdAt (headsLk P puts dn) k
def csLk (dn : Bool) (k j : Nat) : PC := ((((casesLk dn)[k]?).getD [])[j]?).getD []
def bodyLk (P : Program) (puts dn : Bool) (k j : Nat) : Option (List Leaf) := codeX P (oLk P) LO7 SZ7 fLk 6000 0 (loopAt P fLk 4) (hdLk P puts dn k).fr (csLk dn k j ++ (hdLk P puts dn k).pc) (hdLk P puts dn k).hp
def sumsLk (P : Program) (puts dn : Bool) (k j : Nat) : Option (List SumT) := (bodyLk P puts dn k j).bind fun ls => sumsHd P nLk LO7 SZ7 (headsLk P puts dn) (gLk (eLk P puts dn).fr) (ls.map withRows)
end Go.Proofs.Ytlmenjenkpnacaa
end

section
namespace Go.Proofs.Ytlmenjenkpnacaa
open Go Go.Sy Go.RowKit

/-- what the machine wants -/
def wnt6 (a node : Int) (puts : Bool) (s : A6) : Int × Int × Int × Int :=
  if s.st = 1 then (1, a, 0, 0) else if puts then (if s.st = 2 then (2, a + node, loW s.h, 0) else (3, a, s.h, pairW (s.h / 4294967296 + 1) node))
  else if s.st = 2 then (1, a + loW s.h, 0, 0) else (3, a, s.h, pairW (s.h / 4294967296 + 1) (loW s.lk))
theorem obs6_live {a node : Int} {puts : Bool} {s : A6} (h : s.dn = false) : A6.obs a puts node s = seenC (wnt6 a node puts s).1 (wnt6 a node puts s).2.1 (wnt6 a node puts s).2.2.1 (wnt6 a node puts s).2.2.2 true 0 0 false [] := by
  unfold A6.obs wnt6
  rw [h]
  simp only [Bool.false_eq_true, if_false]
  repeat' split
  all_goals rfl
theorem obs6_dead {a node : Int} {puts : Bool} {s : A6} (h : s.dn = true) : A6.obs a puts node s = seenC 0 0 0 0 false s.cd s.v true [] := by
  unfold A6.obs
  rw [h]
  rfl
theorem obs6_take (a node node' : Int) : A6.obs a false node = A6.obs a false node' := by
  funext s
  unfold A6.obs
  simp only [Bool.false_eq_true, if_false]
theorem it6_dead (N N' : Int) (puts puts' : Bool) (t : Tds) (j : Nat) : it6 N puts true t j = it6 N' puts' true t j := by rw [it6_over rfl, it6_over rfl]
theorem se6_dead (a a' N N' : Int) (puts puts' : Bool) (node node' : Int) (t : Tds) : ∀ n, se6 a N puts node true t n = se6 a' N' puts' node' true t n
  | 0 => rfl
  | n + 1 => by
    rw [se6_succ, se6_succ, se6_dead a a' N N' puts puts' node node' t n, it6_dead N N' puts puts', obs6_dead (by rw [it6_over rfl]; rfl), obs6_dead (by rw [it6_over rfl]; rfl)]
theorem se6_lk (ν : Env Gh) (puts dn : Bool) (t : Tds) (n : Nat) : seen6 ((begLk puts dn).den ν) t n = se6 (ν.i 0) (ν.i 1) puts (ν.i 3) dn t n := by
  cases dn
  · cases puts
    · show seenR (A6.obs (ν.i 0) false 0) (A6.step (ν.i 1) false) (s6 false) t n = _
      rw [obs6_take _ 0 (ν.i 3)]
      rfl
    · exact se6_eq ν true false t n
  · have e : seen6 ((begLk puts true).den ν) t n = se6 0 0 false 0 true t n := by cases puts <;> rfl
    rw [e]
    exact se6_dead ..
/-- the walk's frame at a round -/
def JLk6 (puts dn : Bool) (k : Nat) (ν : Env Gh) (x : Vals Gh) : Prop :=
  0 ≤ x.i 0 ∧ x.i 0 ≤ ν.i 7 + 1 ∧ match (if dn then 3 else k) with
  | 3 => (it6 (ν.i 1) puts dn (ν.g 1).t (min (x.i 0) (ν.i 7)).toNat).dn = true ∧ (it6 (ν.i 1) puts dn (ν.g 1).t (min (x.i 0) (ν.i 7)).toNat).cd = x.i 14 ∧ (it6 (ν.i 1) puts dn (ν.g 1).t (min (x.i 0) (ν.i 7)).toNat).v = x.i 15
  | j => (it6 (ν.i 1) puts dn (ν.g 1).t (min (x.i 0) (ν.i 7)).toNat).dn = false ∧ (it6 (ν.i 1) puts dn (ν.g 1).t (min (x.i 0) (ν.i 7)).toNat).st = j + 1 ∧ 0 ≤ x.i 2 ∧ x.i 2 < 18446744073709551616 ∧ (1 ≤ j → (it6 (ν.i 1) puts dn (ν.g 1).t (min (x.i 0) (ν.i 7)).toNat).h = x.i 2) ∧
    wnt6 (ν.i 0) (ν.i 3) puts (it6 (ν.i 1) puts dn (ν.g 1).t (min (x.i 0) (ν.i 7)).toNat) = (x.i 10, x.i 11, x.i 12, x.i 13)
/-! the cases -/
section
variable {ν : Env Gh} (hI : ν.I = inM) {o : List SC} (hr : ∀ j : Int, 0 ≤ j → j < 10 → (getC (ν.g 2).s (ν.i nLk * 10 + j)).x = (getC o j).x ∧ (getC (ν.g 2).s (ν.i nLk * 10 + j)).l = (getC o j).l)
include hI hr
theorem rowC_den {j : Int} (h0 : 0 ≤ j) (h1 : j < 10) : (rowC j).den ν = (getC o j).x := by
  unfold rowC offLk
  rw [gi15 hI]
  exact (hr j h0 h1).1
theorem boolC_den {j : Int} (h0 : 0 ≤ j) (h1 : j < 10) : (boolC j).den ν = decide (0 < (getC o j).x) := by
  have := (hr j h0 h1).1
  simp only [boolC, offLk, SB.den]
  rw [x70 hI, hI, inM_gb]
  exact decide_eq_decide.2 (by simp only [SI.den, SG.den]; rw [this])
theorem listC_den {j : Int} (h0 : 0 ≤ j) (h1 : j < 10) : (eqX .nil (listC j)).den ν = ([] == (getC o j).l) := by
  have := (hr j h0 h1).2
  have x1 : ∀ l : SL, (SG.app 1 (.var 0) (.var 0) (.lit 0) (.lit 0) (.lit 0) (.lit 0) l).den ν = ghL (l.den ν) := fun l => lsX_den hI l
  simp only [eqX, listC, SL.beq, Bool.false_eq_true, if_false, offLk, SB.den]
  rw [app2_den hI, x1, x1, hI, inM_gb, ghL_l, ghL_l]
  simp only [SL.den]
  rw [x70 hI, hI, inM_gl]
  simp only [SI.den, SG.den]
  rw [this]
theorem caseA_den (hle : ν.i nLk ≤ ν.i 7) (ho : o = seenC (ν.i (nLk + 10)) (ν.i (nLk + 11)) (ν.i (nLk + 12)) (ν.i (nLk + 13)) true 0 0 false []) : pcDen ν (caseA .nil) := by
  have r : ∀ j : Int, 0 ≤ j → j < 10 → (rowC j).den ν = (getC o j).x := fun j a b => rowC_den hI hr a b
  refine pcDen_cons (lt_of ?_) (pcDen_cons ?_ (pcDen_cons ?_ (pcDen_cons ?_ (pcDen_cons ?_ (pcDen_cons ?_ (pcDen_cons ?_ (pcDen_one ?_)))))))
  · simp only [SI.den, Bool.false_eq_true, iff_false]; omega
  · simp only [SB.den, r 0 (by decide) (by decide), ho]; simp [SI.den, getC, seenC, cI]
  · simp only [SB.den, r 1 (by decide) (by decide), ho]; simp [SI.den, getC, seenC, cI]
  · simp only [SB.den, r 2 (by decide) (by decide), ho]; simp [SI.den, getC, seenC, cU]
  · simp only [SB.den, r 3 (by decide) (by decide), ho]; simp [SI.den, getC, seenC, cU]
  · simp only [SB.den]; rw [boolC_den hI hr (by decide) (by decide), ho]; simp [getC, seenC, cB]
  · simp only [SB.den]; rw [boolC_den hI hr (by decide) (by decide), ho]; simp [getC, seenC, cB]
  · rw [listC_den hI hr (by decide) (by decide), ho]; simp [getC, seenC, cL]
theorem caseE_den (hle : ν.i nLk ≤ ν.i 7) (ho : o = seenC 0 0 0 0 false (ν.i (nLk + 14)) (ν.i (nLk + 15)) true []) : pcDen ν caseE := by
  have r : ∀ j : Int, 0 ≤ j → j < 10 → (rowC j).den ν = (getC o j).x := fun j a b => rowC_den hI hr a b
  refine pcDen_cons (lt_of ?_) (pcDen_cons ?_ (pcDen_cons ?_ (pcDen_cons ?_ (pcDen_cons ?_ (pcDen_cons ?_ (pcDen_cons ?_ (pcDen_cons ?_ (pcDen_cons ?_ (pcDen_cons ?_ (pcDen_one ?_))))))))))
  · simp only [SI.den, Bool.false_eq_true, iff_false]; omega
  · simp only [SB.den, r 0 (by decide) (by decide), ho]; simp [SI.den, getC, seenC, cI]
  · simp only [SB.den, r 1 (by decide) (by decide), ho]; simp [SI.den, getC, seenC, cI]
  · simp only [SB.den, r 2 (by decide) (by decide), ho]; simp [SI.den, getC, seenC, cU]
  · simp only [SB.den, r 3 (by decide) (by decide), ho]; simp [SI.den, getC, seenC, cU]
  · simp only [SB.den]; rw [boolC_den hI hr (by decide) (by decide), ho]; simp [getC, seenC, cB]
  · simp only [SB.den]; rw [boolC_den hI hr (by decide) (by decide), ho]; simp [getC, seenC, cB]
  · simp only [SB.den, r 5 (by decide) (by decide), ho]; simp [SI.den, getC, seenC, cI]
  · simp only [SB.den, r 6 (by decide) (by decide), ho]; simp [SI.den, getC, seenC, cU]
  · rw [listC_den hI hr (by decide) (by decide), ho]; simp [getC, seenC, cN]
  · rw [listC_den hI hr (by decide) (by decide), ho]; simp [getC, seenC, cL]
end
/-- the rows' numbers are the machine's -/
theorem rows6 {ν : Env Gh} {puts dn : Bool} {n : Nat} (hG : nG (ν.g 2) = (se6 (ν.i 0) (ν.i 1) puts (ν.i 3) dn (ν.g 1).t n).map SC.nums) {i : Int} (h0 : 0 ≤ i) (h1 : i < n) (j : Int) (j0 : 0 ≤ j) (j1 : j < 10) :
    (getC (ν.g 2).s (i * 10 + j)).x = (getC (A6.obs (ν.i 0) puts (ν.i 3) (it6 (ν.i 1) puts dn (ν.g 1).t i.toNat)) j).x ∧ (getC (ν.g 2).s (i * 10 + j)).l = (getC (A6.obs (ν.i 0) puts (ν.i 3) (it6 (ν.i 1) puts dn (ν.g 1).t i.toNat)) j).l := by
  have h := getC_nums hG (i * 10 + j)
  rw [se6, seenR_getC (A6.obs_len _ _ _) h0 j0 j1 (by omega)] at h
  exact h
/-! words -/
theorem pair_or {h : Int} (v : Int) (h0 : 0 ≤ h) (h1 : h < 18446744073709551616) : bitsDen 1 .u64 (IntKind.u64.wrap (IntKind.u32.wrap (IntKind.u32.wrap (h.fdiv 4294967296) + 1) * 4294967296)) (IntKind.u32.wrap v) = pairW (h / 4294967296 + 1) v := by
  rw [Int.fdiv_eq_ediv_of_nonneg _ (by decide)]
  simp only [IntKind.wrap_u64, IntKind.wrap_u32]
  have e : (h / 4294967296 % 4294967296 + 1) % 4294967296 * 4294967296 % 18446744073709551616 = (h / 4294967296 % 4294967296 + 1) % 4294967296 * 4294967296 := by omega
  rw [e, or_pair (by omega) (by omega) (by omega) (by omega)]
  unfold pairW
  omega
theorem pair_or' {h : Int} (v : Int) (h0 : 0 ≤ h) (h1 : h < 18446744073709551616) : bitsDen 1 .u64 (IntKind.u64.wrap (loW (loW (h.fdiv 4294967296) + 1) * 4294967296)) (loW v) = pairW (h / 4294967296 + 1) v := by
  have := pair_or v h0 h1
  simpa only [lo_wrap2] using this
theorem pairW_lo (a v : Int) : pairW a (loW v) = pairW a v := by unfold pairW loW; omega
end Go.Proofs.Ytlmenjenkpnacaa
end

section
namespace Go.Proofs.Ytlmenjenkpnacaa
open Go Go.Sy Go.RowKit

/-! what is seen: asked where the frame's two flags are so -/
def flags6 (puts dn : Bool) (args : List SV) (hp : Heap) : Bool := match args with
  | .ptr b _ :: _ => match hget b hp with
    | some (.cells [_, _, .bool (.lit p), _, _, _, _, .bool (.lit d), _, _, _] _ _) => bBeq p puts && bBeq d dn
    | _ => false
  | _ => false
def kSn (P : Program) (puts dn : Bool) (sh : List CLeaf) (lo : Nat) (args : List SV) (pc : PC) (hp : Heap) : Option (List CLeaf) := if flags6 puts dn args hp then sumK P (tSn puts dn) sh lo args pc hp else none
/-- what is seen of what is refused: whoever it is -/
def canS (c : CLeaf) : CLeaf := { c with pc := (seenB (nSn + 6) (begLk false true), true) :: c.pc.drop 1 }
end Go.Proofs.Ytlmenjenkpnacaa
end
