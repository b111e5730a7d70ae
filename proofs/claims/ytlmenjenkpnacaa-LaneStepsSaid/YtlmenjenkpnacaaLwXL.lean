/- Is a walk like what is seen: rows, cases. -/
import Derived.Test.YtlmenjenkpnacaaLwXS
import Derived.Test.YtlmenjenkpnacaaSyM
set_option linter.unusedVariables false
set_option linter.unusedSimpArgs false

section
namespace Go.Proofs.Ytlmenjenkpnacaa
open Go Go.Sy Go.RowKit

def fLk : Nat := 32
def fSame : Nat := 20
def nLk : Nat := nmAt 4
def oLk (P : Program) : Orac := ((((((((qO.withOp (opSliceT P)).withOp (opAppendW P)).withOp (opLoadS P)).withOp (opAppS P)).withOp (opLoadSt P)).withOp (opCap P)).withCallF fSame (eqNK P))).pruned P
def offLk : SI := .mul (.var nLk) (.lit 10)
def rowC (j : Int) : SI := .gi 15 (.var 2) offLk (.lit j)
def boolC (j : Int) : SB := .gb 0 (.app 70 (.var 2) (.var 2) offLk (.lit j) (.lit 0) (.lit 0) .nil) (.lit 0) (.lit 0)
def listC (j : Int) : SL := .gl 0 (.app 70 (.var 2) (.var 2) offLk (.lit j) (.lit 0) (.lit 0) .nil) (.lit 0) (.lit 0)
/-- a walk that asks, one that has ended -/
def askW (f : Nat) (arg : List SV) (held : SV) : SBk := .cells [.int .i64 (.var (nLk + 10)), .int .i64 (.var (nLk + 11)), .int .u64 (.var (nLk + 12)), .int .u64 (.var (nLk + 13)), .fn f arg [], .bool (.lit true), .nilPtr, .nilFunc, .bool (.lit false), .int .i64 (.lit 0), .int .u64 (.lit 0), .nilSl, held] 194 true
def endW : SBk := .cells [.int .i64 (.var (nLk + 10)), .int .i64 (.var (nLk + 11)), .int .u64 (.var (nLk + 12)), .int .u64 (.var (nLk + 13)), .nilFunc, .bool (.lit false), .nilPtr, .nilFunc, .bool (.lit true), .int .i64 (.var (nLk + 14)), .int .u64 (.var (nLk + 15)), .nilSl, .nilSl] 194 true
/-- the row at which it is looked -/
def caseA (held : SL) : PC := [(.lt (.var 7) (.var nLk), false), (.eq (.var (nLk + 10)) (rowC 0), true), (.eq (.var (nLk + 11)) (rowC 1), true), (.eq (.var (nLk + 12)) (rowC 2), true), (.eq (.var (nLk + 13)) (rowC 3), true), (.same (.lit true) (boolC 4), true), (.same (.lit false) (boolC 8), true), (eqX held (listC 9), true)]
def caseE : PC := [(.lt (.var 7) (.var nLk), false), (.eq (.lit 0) (rowC 0), true), (.eq (.lit 0) (rowC 1), true), (.eq (.lit 0) (rowC 2), true), (.eq (.lit 0) (rowC 3), true), (.same (.lit false) (boolC 4), true), (.same (.lit true) (boolC 8), true), (.eq (.var (nLk + 14)) (rowC 5), true), (.eq (.var (nLk + 15)) (rowC 6), true), (eqX .nil (listC 7), true), (eqX .nil (listC 9), true)]
def caseB : PC := [(.lt (.var 7) (.var nLk), true)]
def basLk : PC := [(.lt (.var nLk) (.lit 0), false), (.lt (.add (.var 7) (.lit 1)) (.var nLk), false)]
def frLk (fr : List SV) : List SV := (keepFr [0, 1, 2] fr).set 7 (.int .i64 (.var nLk))
def u64C (e : SI) : PC := [(.lt e (.lit 0), false), (.lt e (.lit 18446744073709551616), true)]
def gLk (fr : List SV) : List Tgt := [⟨.exit 0, keepFr [] fr, [(1, tldT)], []⟩, ⟨.ret, (keepFr [] fr).set 6 (.bool (.lit false)), [], [(.lit false, true)]⟩]
end Go.Proofs.Ytlmenjenkpnacaa
end

section
namespace Go.Proofs.Ytlmenjenkpnacaa
open Go Go.Sy Go.RowKit

/-! the cases -/
section
variable {ν : Env Gh} (hI : ν.I = inM) {o : List SC} (hr : ∀ j : Int, 0 ≤ j → j < 10 → (getC (ν.g 2).s (ν.i nLk * 10 + j)).x = (getC o j).x ∧ (getC (ν.g 2).s (ν.i nLk * 10 + j)).l = (getC o j).l)
include hI hr
theorem rowC_den {j : Int} (h0 : 0 ≤ j) (h1 : j < 10) : (rowC j).den ν = (getC o j).x := by
  unfold rowC offLk
  rw [gi15 hI]
  exact (hr j h0 h1).1
theorem boolC_den {j : Int} (h0 : 0 ≤ j) (h1 : j < 10) : (boolC j).den ν = decide (0 < (getC o j).x) := by
  have := (hr j h0 h1).1
  simp only [boolC, offLk, SB.den]
  rw [x70 hI, hI, inM_gb]
  exact decide_eq_decide.2 (by simp only [SI.den, SG.den]; rw [this])
theorem listC_den {j : Int} (h0 : 0 ≤ j) (h1 : j < 10) {l : SL} (hb : l.beq (listC j) = false) : (eqX l (listC j)).den ν = (l.den ν == (getC o j).l) := by
  have := (hr j h0 h1).2
  have x1 : ∀ l : SL, (SG.app 1 (.var 0) (.var 0) (.lit 0) (.lit 0) (.lit 0) (.lit 0) l).den ν = ghL (l.den ν) := fun l => lsX_den hI l
  unfold eqX
  rw [hb]
  simp only [listC, Bool.false_eq_true, if_false, offLk, SB.den]
  rw [app2_den hI, x1, x1, hI, inM_gb, ghL_l, ghL_l]
  simp only [SL.den]
  rw [x70 hI, hI, inM_gl]
  simp only [SI.den, SG.den]
  rw [this]
theorem caseA_den {l : SL} (hb : l.beq (listC 9) = false) (hle : ν.i nLk ≤ ν.i 7) (ho : o = seenC (ν.i (nLk + 10)) (ν.i (nLk + 11)) (ν.i (nLk + 12)) (ν.i (nLk + 13)) true 0 0 false (l.den ν)) : pcDen ν (caseA l) := by
  have r : ∀ j : Int, 0 ≤ j → j < 10 → (rowC j).den ν = (getC o j).x := fun j a b => rowC_den hI hr a b
  refine pcDen_cons (lt_of ?_) (pcDen_cons ?_ (pcDen_cons ?_ (pcDen_cons ?_ (pcDen_cons ?_ (pcDen_cons ?_ (pcDen_cons ?_ (pcDen_one ?_)))))))
  · simp only [SI.den, Bool.false_eq_true, iff_false]; omega
  · simp only [SB.den, r 0 (by decide) (by decide), ho]; simp [SI.den, getC, seenC, cI]
  · simp only [SB.den, r 1 (by decide) (by decide), ho]; simp [SI.den, getC, seenC, cI]
  · simp only [SB.den, r 2 (by decide) (by decide), ho]; simp [SI.den, getC, seenC, cU]
  · simp only [SB.den, r 3 (by decide) (by decide), ho]; simp [SI.den, getC, seenC, cU]
  · simp only [SB.den]; rw [boolC_den hI hr (by decide) (by decide), ho]; simp [getC, seenC, cB]
  · simp only [SB.den]; rw [boolC_den hI hr (by decide) (by decide), ho]; simp [getC, seenC, cB]
  · rw [listC_den hI hr (by decide) (by decide) hb, ho]; simp [getC, seenC, cL]
theorem caseE_den (hle : ν.i nLk ≤ ν.i 7) (ho : o = seenC 0 0 0 0 false (ν.i (nLk + 14)) (ν.i (nLk + 15)) true []) : pcDen ν caseE := by
  have r : ∀ j : Int, 0 ≤ j → j < 10 → (rowC j).den ν = (getC o j).x := fun j a b => rowC_den hI hr a b
  refine pcDen_cons (lt_of ?_) (pcDen_cons ?_ (pcDen_cons ?_ (pcDen_cons ?_ (pcDen_cons ?_ (pcDen_cons ?_ (pcDen_cons ?_ (pcDen_cons ?_ (pcDen_cons ?_ (pcDen_cons ?_ (pcDen_one ?_))))))))))
  · simp only [SI.den, Bool.false_eq_true, iff_false]; omega
  · simp only [SB.den, r 0 (by decide) (by decide), ho]; simp [SI.den, getC, seenC, cI]
  · simp only [SB.den, r 1 (by decide) (by decide), ho]; simp [SI.den, getC, seenC, cI]
  · simp only [SB.den, r 2 (by decide) (by decide), ho]; simp [SI.den, getC, seenC, cU]
  · simp only [SB.den, r 3 (by decide) (by decide), ho]; simp [SI.den, getC, seenC, cU]
  · simp only [SB.den]; rw [boolC_den hI hr (by decide) (by decide), ho]; simp [getC, seenC, cB]
  · simp only [SB.den]; rw [boolC_den hI hr (by decide) (by decide), ho]; simp [getC, seenC, cB]
  · simp only [SB.den, r 5 (by decide) (by decide), ho]; simp [SI.den, getC, seenC, cI]
  · simp only [SB.den, r 6 (by decide) (by decide), ho]; simp [SI.den, getC, seenC, cU]
  · rw [listC_den hI hr (by decide) (by decide) rfl, ho]; simp [SL.den, getC, seenC, cN]
  · rw [listC_den hI hr (by decide) (by decide) rfl, ho]; simp [SL.den, getC, seenC, cL]
end
theorem mask_modK (t c : Int) (h : Pow c) (h0 : 0 ≤ t) (h1 : t < 18446744073709551616) : bitsDen 0 .u64 t (c - 1) = t % c := by
  have w1 : IntKind.u64.wrap (IntKind.i64.wrap (c - 1)) = c - 1 := by
    rw [wrapU]
    unfold Pow at h
    rw [wrapS _ (by omega) (by omega)]
    omega
  have := mask_mod t c h
  rw [w1, Int.emod_eq_of_lt h0 h1] at this
  exact this
end Go.Proofs.Ytlmenjenkpnacaa
end

section
namespace Go.Proofs.Ytlmenjenkpnacaa
open Go Go.Sy Go.RowKit

def oL3 (P : Program) : Orac := (((((((((((qO.withOp (opSliceT P)).withOp (opSliceV P)).withOp (opAppendW P)).withOp (opAppendR P)).withOp (opNilZ P)).withOp (opLoadS P)).withOp (opAppS P)).withOp (opLoadSt P)).withOp (opCap P)).withCallF fSame (eqNK P))).pruned P
def way32 (puts : Bool) (n : SI) : SBk := .cells [.int .i64 (.var 0), .int .i64 (.var 1), .ptr 0 (.lit 0), .int .i64 (if puts then .var 0 else .add (.var 0) (.lit 1)), .int .u64 (.lit (if puts then 0 else 1)), .int .i64 (.lit (if puts then 4 else 5)), .int .u64 n,
  if puts then .fn 103 [.agg [.ptr 3 (.lit 0), .int .u64 (.var 3)]] [] else .fn 99 [.agg [.ptr 3 (.lit 0)]] []] 149 true
/-- what a walk does next -/
def nx32 (puts : Bool) (k : Nat) : SV := match puts, k with
  | _, 0 => .fn 152 [.ptr 3 (.lit 0)] []
  | _, 1 => .fn 185 [.ptr 3 (.lit 0)] []
  | _, 2 => .fn 197 [.ptr 3 (.lit 0)] []
  | true, 3 => .fn 154 [.agg [.ptr 3 (.lit 0), .int .u64 (.var 3)]] []
  | true, _ => .fn 186 [.agg [.ptr 3 (.lit 0), .int .u64 (.var 3)]] []
  | false, 3 => .fn 151 [.agg [.ptr 3 (.lit 0)]] []
  | false, _ => .fn 184 [] [.ptr (nLk + 22) (.lit 0), .ptr (nLk + 23) (.lit 0)]
def ask32 (w : List SI) (nx held : SV) : SBk := match w with
  | [a, b, c, d] => .cells [.int .i64 a, .int .i64 b, .int .u64 c, .int .u64 d, nx, .bool (.lit true), .nilPtr, .nilFunc, .bool (.lit false), .int .i64 (.lit 0), .int .u64 (.lit 0), .nilSl, held] 194 true
  | _ => .cells [] 0 true
def u64Ty : Nat := 53
/-- what is held: by a Put its task, by a Take at its last step what it took -/
def hld32 (puts : Bool) (k : Nat) : SV := if puts then .sl 4 (.lit 0) (.lit 1) (.var 5) else if Nat.beq k 4 then .sl (nLk + 20) (.lit 0) (.lit 1) (.var (nLk + 21)) else .nilSl
def hldL (puts : Bool) (k : Nat) : SL := if puts then .cons (.var 3) .nil else if Nat.beq k 4 then .cons (.var (nLk + 16)) .nil else .nil
def rows32 (puts : Bool) (k : Nat) : Heap := if puts then [(4, .row .u64 (.cons (.var 3) .nil) (.var 5) u64Ty)] else if Nat.beq k 4 then [(nLk + 20, .row .u64 (.cons (.var (nLk + 16)) .nil) (.var (nLk + 21)) u64Ty), (nLk + 22, .cells [.ptr 3 (.lit 0)] 147 true), (nLk + 23, .cells [.int .u64 (.var (nLk + 16))] u64Ty true)] else []
def begW32 (puts dn : Bool) : List (Nat × SBk) := if dn then [(0, .cells [.int .i64 (.lit 0), .int .i64 (.lit 0), .int .u64 (.lit 0), .int .u64 (.lit 0), .nilFunc, .bool (.lit false), .nilPtr, .nilFunc, .bool (.lit true), .int .i64 (.lit 2), .int .u64 (.lit 0), .nilSl, .nilSl] 194 true), (1, tldT), (2, bkN 2)]
  else [(0, ask32 [.lit 1, if puts then .var 0 else .add (.var 0) (.lit 1), .lit 0, .lit 0] (nx32 puts 0) (hld32 puts 0)), (1, tldT), (2, bkN 2), (3, way32 puts (.lit 0))] ++ rows32 puts 0
/-- the machine, as it begins, by what a walk's frame tells -/
def begL32 (puts dn : Bool) : SL := if dn then .cons (.lit 0) (.cons (.lit 0) (.cons (.lit 0) (.cons (.lit 0) (.cons (.lit 1) (.cons (.lit 0) (.cons (.lit 1) (.cons (.lit 2) (.cons (.lit 0) .nil)))))))) else beg32 puts false
def tLk32 (puts dn : Bool) : Tmpl := ⟨[.ptr 0 (.lit 0), svN 2, tldV], [(seen32B 2 (begL32 puts dn), true), (.eq (rowsS (stN 2)) (.add (.var 7) (.lit 1)), true)] ++ (if dn then [] else right32 ++ (if puts then u64D (.var 3) else [])) ++ tldPC, begW32 puts dn⟩
def eLk32 (P : Program) (puts dn : Bool) : Leaf := capN 0 (capAll P (oL3 P) fLk 4 (tLk32 puts dn).args (tLk32 puts dn).pc (tLk32 puts dn).hp)
def headsLk32 (P : Program) (puts dn : Bool) : List Tgt := let L := eLk32 P puts dn
  let fr := frLk L.fr
  let dead : Tgt := ⟨.normal, fr, [(0, endW), (1, tldT), (2, bkN 2)], basLk ++ L.pc⟩
  let live (k : Nat) : Tgt := ⟨.normal, fr, [(0, ask32 [.var (nLk + 10), .var (nLk + 11), .var (nLk + 12), .var (nLk + 13)] (nx32 puts k) (hld32 puts k)), (1, tldT), (2, bkN 2), (3, way32 puts (.var (nLk + 2)))] ++ rows32 puts k, basLk ++ u64C (.var (nLk + 2)) ++ L.pc⟩
  if dn then [dead] else [live 0, live 1, live 2, live 3, live 4, dead]
def casesLk32 (puts dn : Bool) : List (List PC) := if dn then [[caseE, caseB]] else [[caseA (hldL puts 0), caseB], [caseA (hldL puts 1), caseB], [caseA (hldL puts 2), caseB], [caseA (hldL puts 3), caseB], [caseA (hldL puts 4), caseB], [caseE, caseB]]
def bdLk32 (P : Program) (puts dn : Bool) : PC := (eLk32 P puts dn).pc.map fun x => (x.1, !x.2)
def hdLk32 (P : Program) (puts dn : Bool) (k : Nat) : Tgt := hdAt (headsLk32 P puts dn) k
def csLk32 (puts dn : Bool) (k j : Nat) : PC := ((((casesLk32 puts dn)[k]?).getD [])[j]?).getD []
def bodyLk32 (P : Program) (puts dn : Bool) (k j : Nat) : Option (List Leaf) := codeX P (oL3 P) LO7 SZ7 fLk 6000 0 (loopAt P fLk 4) (hdLk32 P puts dn k).fr (csLk32 puts dn k j ++ (hdLk32 P puts dn k).pc) (hdLk32 P puts dn k).hp
def sumsLk32 (P : Program) (puts dn : Bool) (k j : Nat) : Option (List SumT) := (bodyLk32 P puts dn k j).bind fun ls => sumsHd P nLk LO7 SZ7 (headsLk32 P puts dn) (gLk (eLk32 P puts dn).fr) (ls.map withRows)
end Go.Proofs.Ytlmenjenkpnacaa
end

section
namespace Go.Proofs.Ytlmenjenkpnacaa
open Go Go.Sy Go.RowKit

/-- what the machine wants, what it holds -/
def wnt32 (a size : Int) (puts : Bool) (s : A32) : Int × Int × Int × Int :=
  if s.st = 1 then (1, cond puts a (a + 1), 0, 0) else if s.st = 2 then (1, a + 2 + 2 * (s.n % size), 0, 0)
  else if s.st = 3 then (3, cond puts a (a + 1), s.n, (s.n + 1) % 18446744073709551616)
  else if s.st = 4 then (cond puts 2 1, a + 2 + 2 * (s.n % size) + 1, cond puts s.task 0, 0)
  else (2, a + 2 + 2 * (s.n % size), (s.n + cond puts 1 size) % 18446744073709551616, 0)
def hel32 (puts : Bool) (s : A32) : List Int := if puts = true ∨ s.st = 5 then [s.task] else []
theorem obs32_live {a size : Int} {puts : Bool} {s : A32} (h : s.dn = false) : A32.obs a size puts s = seenC (wnt32 a size puts s).1 (wnt32 a size puts s).2.1 (wnt32 a size puts s).2.2.1 (wnt32 a size puts s).2.2.2 true 0 0 false (hel32 puts s) := by
  unfold A32.obs wnt32 hel32
  rw [h]
  cases puts <;> simp <;> (repeat' split) <;> first | rfl | (exfalso; omega) | (simp_all; done)
theorem obs32_dead {a size : Int} {puts : Bool} {s : A32} (h : s.dn = true) : A32.obs a size puts s = seenC 0 0 0 0 false s.cd s.v true [] := by
  unfold A32.obs
  rw [h]
  rfl
theorem se32_dead (a a' z z' : Int) (puts puts' : Bool) (s0 s0' : A32) (h : s0.dn = true) (h' : s0'.dn = true) (hc : s0.cd = s0'.cd) (hv : s0.v = s0'.v) (t : Td3) : ∀ n, se32 a z puts s0 t n = se32 a' z' puts' s0' t n
  | 0 => rfl
  | n + 1 => by
    rw [se32_succ, se32_succ, se32_dead a a' z z' puts puts' s0 s0' h h' hc hv t n, it32_over h, it32_over h', obs32_dead h, obs32_dead h', hc, hv]
theorem se32_lk (ν : Env Gh) (puts dn : Bool) (t : Td3) (n : Nat) : seen32 ((begL32 puts dn).den ν) t n = se32 (ν.i 0) (ν.i 1) puts (b32 puts dn ν) t n := by
  cases dn
  · exact se32_eq ν puts false t n
  · have e : seen32 ((begL32 puts true).den ν) t n = se32 0 0 false ⟨1, 0, 0, true, 2, 0⟩ t n := by cases puts <;> rfl
    rw [e]
    exact se32_dead _ _ _ _ _ _ (⟨1, 0, 0, true, 2, 0⟩ : A32) (b32 puts true ν) rfl rfl rfl rfl t n
/-- the machine at a walk's state -/
def JS32 (puts : Bool) (j : Nat) (ν : Env Gh) (s : A32) (y : Vals Gh) : Prop := match j with
  | 5 => s.dn = true ∧ s.cd = y.i 14 ∧ s.v = y.i 15
  | j => s.dn = false ∧ s.st = j + 1 ∧ 0 ≤ y.i 2 ∧ y.i 2 < 18446744073709551616 ∧ (1 ≤ j → s.n = y.i 2) ∧ (puts = true → s.task = ν.i 3) ∧ (puts = false → j = 4 → s.task = y.i 16) ∧ wnt32 (ν.i 0) (ν.i 1) puts s = (y.i 10, y.i 11, y.i 12, y.i 13)
def JL32 (puts dn : Bool) (k : Nat) (ν : Env Gh) (x : Vals Gh) : Prop :=
  0 ≤ x.i 0 ∧ x.i 0 ≤ ν.i 7 + 1 ∧ JS32 puts (if dn then 5 else k) ν (it32 puts (b32 puts dn ν) (ν.g 1).t (min (x.i 0) (ν.i 7)).toNat) x
/-- the rows' numbers are the machine's -/
theorem rows32R {ν : Env Gh} {puts dn : Bool} {n : Nat} (hG : nG (ν.g 2) = (se32 (ν.i 0) (ν.i 1) puts (b32 puts dn ν) (ν.g 1).t n).map SC.nums) {i : Int} (h0 : 0 ≤ i) (h1 : i < n) (j : Int) (j0 : 0 ≤ j) (j1 : j < 10) :
    (getC (ν.g 2).s (i * 10 + j)).x = (getC (A32.obs (ν.i 0) (ν.i 1) puts (it32 puts (b32 puts dn ν) (ν.g 1).t i.toNat)) j).x ∧ (getC (ν.g 2).s (i * 10 + j)).l = (getC (A32.obs (ν.i 0) (ν.i 1) puts (it32 puts (b32 puts dn ν) (ν.g 1).t i.toNat)) j).l := by
  have h := getC_nums hG (i * 10 + j)
  rw [se32, seenR_getC (obs32_len _ _ _) h0 j0 j1 (by omega)] at h
  exact h
end Go.Proofs.Ytlmenjenkpnacaa
end

section
namespace Go.Proofs.Ytlmenjenkpnacaa
open Go Go.Sy Go.RowKit

/-! what is seen: asked where the frame's two flags are so -/
def flags32 (puts dn : Bool) (args : List SV) (hp : Heap) : Bool := match args with
  | .ptr b _ :: _ => match hget b hp with
    | some (.cells [_, _, .bool (.lit p), _, _, _, .bool (.lit d), _, _, _] _ _) => bBeq p puts && bBeq d dn
    | _ => false
  | _ => false
def kSn32 (P : Program) (puts dn : Bool) (sh : List CLeaf) (lo : Nat) (args : List SV) (pc : PC) (hp : Heap) : Option (List CLeaf) := if flags32 puts dn args hp then sumK P (t32 puts dn) sh lo args pc hp else none
/-- what is seen of what is refused: whoever it is -/
def canS32 (c : CLeaf) : CLeaf := { c with pc := (seen32B (n32 + 6) (begL32 false true), true) :: c.pc.drop 1 }
end Go.Proofs.Ytlmenjenkpnacaa
end
