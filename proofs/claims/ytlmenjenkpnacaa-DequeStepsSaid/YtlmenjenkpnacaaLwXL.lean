/- Is a walk like what is seen: rows, cases. -/
import Derived.Test.YtlmenjenkpnacaaLwXS
import Derived.Test.YtlmenjenkpnacaaSyM
import Derived.Test.YtlmenjenkpnacaaLwXA
set_option linter.unusedVariables false
set_option linter.unusedSimpArgs false

section
namespace Go.Proofs.Ytlmenjenkpnacaa
open Go Go.Sy Go.RowKit

def fLk : Nat := 32
def fSame : Nat := 20
def nLk : Nat := nmAt 4
def oLk (P : Program) : Orac := ((((((((qO.withOp (opSliceT P)).withOp (opAppendW P)).withOp (opLoadS P)).withOp (opAppS P)).withOp (opLoadSt P)).withOp (opCap P)).withCallF fSame (eqNK P))).pruned P
def offLk : SI := .mul (.var nLk) (.lit 10)
def rowC (j : Int) : SI := .gi 15 (.var 2) offLk (.lit j)
def boolC (j : Int) : SB := .gb 0 (.app 70 (.var 2) (.var 2) offLk (.lit j) (.lit 0) (.lit 0) .nil) (.lit 0) (.lit 0)
def listC (j : Int) : SL := .gl 0 (.app 70 (.var 2) (.var 2) offLk (.lit j) (.lit 0) (.lit 0) .nil) (.lit 0) (.lit 0)
/-- a walk that asks, one that has ended -/
def askW (f : Nat) (arg : List SV) (held : SV) : SBk := .cells [.int .i64 (.var (nLk + 10)), .int .i64 (.var (nLk + 11)), .int .u64 (.var (nLk + 12)), .int .u64 (.var (nLk + 13)), .fn f arg [], .bool (.lit true), .nilPtr, .nilFunc, .bool (.lit false), .int .i64 (.lit 0), .int .u64 (.lit 0), .nilSl, held] 194 true
def endW : SBk := .cells [.int .i64 (.var (nLk + 10)), .int .i64 (.var (nLk + 11)), .int .u64 (.var (nLk + 12)), .int .u64 (.var (nLk + 13)), .nilFunc, .bool (.lit false), .nilPtr, .nilFunc, .bool (.lit true), .int .i64 (.var (nLk + 14)), .int .u64 (.var (nLk + 15)), .nilSl, .nilSl] 194 true
/-- the row at which it is looked -/
def caseA (held : SL) : PC := [(.lt (.var 7) (.var nLk), false), (.eq (.var (nLk + 10)) (rowC 0), true), (.eq (.var (nLk + 11)) (rowC 1), true), (.eq (.var (nLk + 12)) (rowC 2), true), (.eq (.var (nLk + 13)) (rowC 3), true), (.same (.lit true) (boolC 4), true), (.same (.lit false) (boolC 8), true), (eqX held (listC 9), true)]
def caseE : PC := [(.lt (.var 7) (.var nLk), false), (.eq (.lit 0) (rowC 0), true), (.eq (.lit 0) (rowC 1), true), (.eq (.lit 0) (rowC 2), true), (.eq (.lit 0) (rowC 3), true), (.same (.lit false) (boolC 4), true), (.same (.lit true) (boolC 8), true), (.eq (.var (nLk + 14)) (rowC 5), true), (.eq (.var (nLk + 15)) (rowC 6), true), (eqX .nil (listC 7), true), (eqX .nil (listC 9), true)]
def caseB : PC := [(.lt (.var 7) (.var nLk), true)]
def basLk : PC := [(.lt (.var nLk) (.lit 0), false), (.lt (.add (.var 7) (.lit 1)) (.var nLk), false)]
def frLk (fr : List SV) : List SV := (keepFr [0, 1, 2] fr).set 7 (.int .i64 (.var nLk))
def u64C (e : SI) : PC := [(.lt e (.lit 0), false), (.lt e (.lit 18446744073709551616), true)]
def gLk (fr : List SV) : List Tgt := [⟨.exit 0, keepFr [] fr, [(1, tldT)], []⟩, ⟨.ret, (keepFr [] fr).set 6 (.bool (.lit false)), [], [(.lit false, true)]⟩]
end Go.Proofs.Ytlmenjenkpnacaa
end

section
namespace Go.Proofs.Ytlmenjenkpnacaa
open Go Go.Sy Go.RowKit

/-! the cases -/
section
variable {ν : Env Gh} (hI : ν.I = inM) {o : List SC} (hr : ∀ j : Int, 0 ≤ j → j < 10 → (getC (ν.g 2).s (ν.i nLk * 10 + j)).x = (getC o j).x ∧ (getC (ν.g 2).s (ν.i nLk * 10 + j)).l = (getC o j).l)
include hI hr
theorem rowC_den {j : Int} (h0 : 0 ≤ j) (h1 : j < 10) : (rowC j).den ν = (getC o j).x := by
  unfold rowC offLk
  rw [gi15 hI]
  exact (hr j h0 h1).1
theorem boolC_den {j : Int} (h0 : 0 ≤ j) (h1 : j < 10) : (boolC j).den ν = decide (0 < (getC o j).x) := by
  have := (hr j h0 h1).1
  simp only [boolC, offLk, SB.den]
  rw [x70 hI, hI, inM_gb]
  exact decide_eq_decide.2 (by simp only [SI.den, SG.den]; rw [this])
theorem listC_den {j : Int} (h0 : 0 ≤ j) (h1 : j < 10) {l : SL} (hb : l.beq (listC j) = false) : (eqX l (listC j)).den ν = (l.den ν == (getC o j).l) := by
  have := (hr j h0 h1).2
  have x1 : ∀ l : SL, (SG.app 1 (.var 0) (.var 0) (.lit 0) (.lit 0) (.lit 0) (.lit 0) l).den ν = ghL (l.den ν) := fun l => lsX_den hI l
  unfold eqX
  rw [hb]
  simp only [listC, Bool.false_eq_true, if_false, offLk, SB.den]
  rw [app2_den hI, x1, x1, hI, inM_gb, ghL_l, ghL_l]
  simp only [SL.den]
  rw [x70 hI, hI, inM_gl]
  simp only [SI.den, SG.den]
  rw [this]
theorem caseA_den {l : SL} (hb : l.beq (listC 9) = false) (hle : ν.i nLk ≤ ν.i 7) (ho : o = seenC (ν.i (nLk + 10)) (ν.i (nLk + 11)) (ν.i (nLk + 12)) (ν.i (nLk + 13)) true 0 0 false (l.den ν)) : pcDen ν (caseA l) := by
  have r : ∀ j : Int, 0 ≤ j → j < 10 → (rowC j).den ν = (getC o j).x := fun j a b => rowC_den hI hr a b
  refine pcDen_cons (lt_of ?_) (pcDen_cons ?_ (pcDen_cons ?_ (pcDen_cons ?_ (pcDen_cons ?_ (pcDen_cons ?_ (pcDen_cons ?_ (pcDen_one ?_)))))))
  · simp only [SI.den, Bool.false_eq_true, iff_false]; omega
  · simp only [SB.den, r 0 (by decide) (by decide), ho]; simp [SI.den, getC, seenC, cI]
  · simp only [SB.den, r 1 (by decide) (by decide), ho]; simp [SI.den, getC, seenC, cI]
  · simp only [SB.den, r 2 (by decide) (by decide), ho]; simp [SI.den, getC, seenC, cU]
  · simp only [SB.den, r 3 (by decide) (by decide), ho]; simp [SI.den, getC, seenC, cU]
  · simp only [SB.den]; rw [boolC_den hI hr (by decide) (by decide), ho]; simp [getC, seenC, cB]
  · simp only [SB.den]; rw [boolC_den hI hr (by decide) (by decide), ho]; simp [getC, seenC, cB]
  · rw [listC_den hI hr (by decide) (by decide) hb, ho]; simp [getC, seenC, cL]
theorem caseE_den (hle : ν.i nLk ≤ ν.i 7) (ho : o = seenC 0 0 0 0 false (ν.i (nLk + 14)) (ν.i (nLk + 15)) true []) : pcDen ν caseE := by
  have r : ∀ j : Int, 0 ≤ j → j < 10 → (rowC j).den ν = (getC o j).x := fun j a b => rowC_den hI hr a b
  refine pcDen_cons (lt_of ?_) (pcDen_cons ?_ (pcDen_cons ?_ (pcDen_cons ?_ (pcDen_cons ?_ (pcDen_cons ?_ (pcDen_cons ?_ (pcDen_cons ?_ (pcDen_cons ?_ (pcDen_cons ?_ (pcDen_one ?_))))))))))
  · simp only [SI.den, Bool.false_eq_true, iff_false]; omega
  · simp only [SB.den, r 0 (by decide) (by decide), ho]; simp [SI.den, getC, seenC, cI]
  · simp only [SB.den, r 1 (by decide) (by decide), ho]; simp [SI.den, getC, seenC, cI]
  · simp only [SB.den, r 2 (by decide) (by decide), ho]; simp [SI.den, getC, seenC, cU]
  · simp only [SB.den, r 3 (by decide) (by decide), ho]; simp [SI.den, getC, seenC, cU]
  · simp only [SB.den]; rw [boolC_den hI hr (by decide) (by decide), ho]; simp [getC, seenC, cB]
  · simp only [SB.den]; rw [boolC_den hI hr (by decide) (by decide), ho]; simp [getC, seenC, cB]
  · simp only [SB.den, r 5 (by decide) (by decide), ho]; simp [SI.den, getC, seenC, cI]
  · simp only [SB.den, r 6 (by decide) (by decide), ho]; simp [SI.den, getC, seenC, cU]
  · rw [listC_den hI hr (by decide) (by decide) rfl, ho]; simp [SL.den, getC, seenC, cN]
  · rw [listC_den hI hr (by decide) (by decide) rfl, ho]; simp [SL.den, getC, seenC, cL]
end
theorem mask_modK (t c : Int) (h : Pow c) (h0 : 0 ≤ t) (h1 : t < 18446744073709551616) : bitsDen 0 .u64 t (c - 1) = t % c := by
  have w1 : IntKind.u64.wrap (IntKind.i64.wrap (c - 1)) = c - 1 := by
    rw [wrapU]
    unfold Pow at h
    rw [wrapS _ (by omega) (by omega)]
    omega
  have := mask_mod t c h
  rw [w1, Int.emod_eq_of_lt h0 h1] at this
  exact this
end Go.Proofs.Ytlmenjenkpnacaa
end

section
namespace Go.Proofs.Ytlmenjenkpnacaa
open Go Go.Sy Go.RowKit

def oL7 (P : Program) : Orac := ((((((((((((qO.withOp (opSliceT P)).withOp (opSliceV P)).withOp (opAppendW P)).withOp (opAppendR P)).withOp (opNilZ P)).withOp (opLoadS P)).withOp (opAppS P)).withOp (opLoadSt P)).withOp (opCap P)).withOp (opStoreB P)).withCallF fSame (eqNK P))).pruned P
/-- a walk's own struct -/
def own7 (kd : Nat) (b t x : SI) (won : Bool) : SBk := match kd with
  | 1 => .cells [.int .i64 (.var 0), .int .i64 (.var 1), .ptr 0 (.lit 0), .int .u64 (.var 3), .int .u64 b] 158 true
  | 2 => .cells [.int .i64 (.var 0), .int .i64 (.var 1), .ptr 0 (.lit 0), .int .u64 b, .int .u64 t, .int .u64 x, .bool (.lit won)] 164 true
  | _ => .cells [.int .i64 (.var 0), .int .i64 (.var 1), .ptr 0 (.lit 0), .int .u64 t, .int .u64 x] 167 true
/-- what a walk does next -/
def nx7 (kd k : Nat) : Nat := match kd, k with
  | 1, 0 => 112
  | 1, 1 => 158
  | 1, 2 => 187
  | 1, _ => 198
  | 2, 0 => 119
  | 2, 1 => 165
  | 2, 2 => 188
  | 2, 3 => 200
  | 2, 5 => 209
  | 2, _ => 199
  | _, 0 => 121
  | _, 1 => 166
  | _, 2 => 189
  | _, _ => 202
def ask7 (w : List SI) (nx : Nat) (held : SV) : SBk := match w with
  | [a, b, c, d] => .cells [.int .i64 a, .int .i64 b, .int .u64 c, .int .u64 d, .fn nx [.ptr 3 (.lit 0)] [], .bool (.lit true), .nilPtr, .nilFunc, .bool (.lit false), .int .i64 (.lit 0), .int .u64 (.lit 0), .nilSl, held] 194 true
  | _ => .cells [] 0 true
/-- what is held: by a Push its task, by a Pop at its last step what it won -/
def win7 (kd k : Nat) : Bool := Nat.beq kd 2 && Nat.beq k 6
def hld7 (kd k : Nat) : SV := if Nat.beq kd 1 then .sl 4 (.lit 0) (.lit 1) (.var 5) else if win7 kd k then .sl (nLk + 20) (.lit 0) (.lit 1) (.var (nLk + 21)) else .nilSl
def hldL7 (kd k : Nat) : SL := if Nat.beq kd 1 then .cons (.var 3) .nil else if win7 kd k then .cons (.var (nLk + 4)) .nil else .nil
def rowH7 (kd k : Nat) : Heap := if Nat.beq kd 1 then [(4, .row .u64 (.cons (.var 3) .nil) (.var 5) 53)] else if win7 kd k then [(nLk + 20, .row .u64 (.cons (.var (nLk + 4)) .nil) (.var (nLk + 21)) 53)] else []
def begW7 (kd : Nat) : List (Nat × SBk) := if dn7 kd then [(0, .cells [.int .i64 (.lit 0), .int .i64 (.lit 0), .int .u64 (.lit 0), .int .u64 (.lit 0), .nilFunc, .bool (.lit false), .nilPtr, .nilFunc, .bool (.lit true), .int .i64 (.lit 2), .int .u64 (.lit 0), .nilSl, .nilSl] 194 true), (1, tldT), (2, bkN 2)]
  else [(0, ask7 [.lit 1, if Nat.beq kd 3 then .var 0 else .add (.var 0) (.lit 1), .lit 0, .lit 0] (nx7 kd 0) (hld7 kd 0)), (1, tldT), (2, bkN 2), (3, own7 kd (.lit 0) (.lit 0) (.lit 0) false)] ++ rowH7 kd 0
def tLk7 (kd : Nat) : Tmpl := ⟨[.ptr 0 (.lit 0), svN 2, tldV], [(seen7B 2 (beg7 kd), true), (.eq (rowsS (stN 2)) (.add (.var 7) (.lit 1)), true)] ++ (if dn7 kd then [] else right7 ++ (if Nat.beq kd 1 then u64E (.var 3) else [])) ++ tldPC, begW7 kd⟩
def eLk7 (P : Program) (kd : Nat) : Leaf := capN 0 (capAll P (oL7 P) fLk 4 (tLk7 kd).args (tLk7 kd).pc (tLk7 kd).hp)
/-- how many heads ask -/
def liv7K (kd : Nat) : Nat := match kd with | 0 => 0 | 2 => 7 | _ => 4
def rng7 (kd : Nat) : PC := match kd with
  | 1 => u64C (.var (nLk + 2))
  | 2 => u64C (.var (nLk + 2)) ++ u64C (.var (nLk + 3)) ++ u64C (.var (nLk + 4))
  | _ => u64C (.var (nLk + 3)) ++ u64C (.var (nLk + 4))
def headsLk7 (P : Program) (kd : Nat) : List Tgt := let L := eLk7 P kd
  let fr := frLk L.fr
  let dead : Tgt := ⟨.normal, fr, [(0, endW), (1, tldT), (2, bkN 2)], basLk ++ L.pc⟩
  let live (k : Nat) : Tgt := ⟨.normal, fr, [(0, ask7 [.var (nLk + 10), .var (nLk + 11), .var (nLk + 12), .var (nLk + 13)] (nx7 kd k) (hld7 kd k)), (1, tldT), (2, bkN 2), (3, own7 kd (.var (nLk + 2)) (.var (nLk + 3)) (.var (nLk + 4)) (win7 kd k))] ++ rowH7 kd k, basLk ++ rng7 kd ++ L.pc⟩
  (List.range (liv7K kd)).map live ++ [dead]
def wonL : SB := .gb 11 (.var 1) (.var nLk) (.lit 0)
def casesLk7 (kd k : Nat) : List PC := if Nat.beq k (liv7K kd) then [caseE, caseB] else if Nat.beq kd 2 && Nat.beq k 5 then [(wonL, true) :: caseA (hldL7 kd k), (wonL, false) :: caseA (hldL7 kd k), caseB] else [caseA (hldL7 kd k), caseB]
def bdLk7 (P : Program) (kd : Nat) : PC := (eLk7 P kd).pc.map fun x => (x.1, !x.2)
def hdLk7 (P : Program) (kd k : Nat) : Tgt := hdAt (headsLk7 P kd) k
def csLk7 (kd k j : Nat) : PC := ((casesLk7 kd k)[j]?).getD []
def bodyLk7 (P : Program) (kd k j : Nat) : Option (List Leaf) := codeX P (oL7 P) LO7 SZ7 fLk 6000 0 (loopAt P fLk 4) (hdLk7 P kd k).fr (csLk7 kd k j ++ (hdLk7 P kd k).pc) (hdLk7 P kd k).hp
def sumsLk7 (P : Program) (kd k j : Nat) : Option (List SumT) := (bodyLk7 P kd k j).bind fun ls => sumsHd P nLk LO7 SZ7 (headsLk7 P kd) (gLk (eLk7 P kd).fr) (ls.map withRows)
end Go.Proofs.Ytlmenjenkpnacaa
end

section
namespace Go.Proofs.Ytlmenjenkpnacaa
open Go Go.Sy Go.RowKit

/-- a Bool that is told twice, otherwise each time -/
theorem ab2 {ν : Env Gh} {p : PC} (h : pcDen ν p) (a b : Nat) {c : SB} {x y : Bool} (e0 : p[a]? = some (c, x)) (e1 : p[b]? = some (.same (.lit y) c, true)) (hn : (y == x) = false) : False := by
  have h0 := pcAt h a e0
  have h1 := pcAt h b e1
  simp only [SB.den] at h1
  rw [h0, hn] at h1
  exact absurd h1 (by decide)
/-- what the machine wants, what it holds -/
def wnt7 (at' size kind task : Int) (s : A7) : Int × Int × Int × Int :=
  if kind = 1 then
    (if s.st = 1 then (1, at' + 1, 0, 0) else if s.st = 2 then (1, at', 0, 0) else if s.st = 3 then (2, at' + 2 + s.b % size, task, 0) else (2, at' + 1, (s.b + 1) % 18446744073709551616, 0))
  else if kind = 2 then
    (if s.st = 1 then (1, at' + 1, 0, 0) else if s.st = 2 then (2, at' + 1, s.b, 0) else if s.st = 3 then (1, at', 0, 0)
     else if s.st = 4 then (if s.ahead < 0 then (2, at' + 1, (s.b + 1) % 18446744073709551616, 0) else (1, at' + 2 + s.b % size, 0, 0))
     else if s.st = 5 then (3, at', s.t, (s.t + 1) % 18446744073709551616) else (2, at' + 1, (s.b + 1) % 18446744073709551616, 0))
  else if s.st = 1 then (1, at', 0, 0) else if s.st = 2 then (1, at' + 1, 0, 0) else if s.st = 3 then (1, at' + 2 + s.t % size, 0, 0) else (3, at', s.t, (s.t + 1) % 18446744073709551616)
def hel7 (kind task : Int) (s : A7) : List Int :=
  if kind = 1 then [task]
  else if kind = 2 then (if s.st = 1 then [] else if s.st = 2 then [] else if s.st = 3 then [] else if s.st = 4 then [] else if s.st = 5 then [] else if s.won then [s.x] else [])
  else []
theorem obs7_live {at' size kind task : Int} {s : A7} (h : s.dn = false) : A7.obs at' size kind task s = seenC (wnt7 at' size kind task s).1 (wnt7 at' size kind task s).2.1 (wnt7 at' size kind task s).2.2.1 (wnt7 at' size kind task s).2.2.2 true 0 0 false (hel7 kind task s) := by
  unfold A7.obs wnt7 hel7
  rw [h]
  simp only [Bool.false_eq_true, if_false]
  repeat' split
  all_goals rfl
theorem obs7_dead {at' size kind task : Int} {s : A7} (h : s.dn = true) : A7.obs at' size kind task s = seenC 0 0 0 0 false s.cd s.v true [] := by
  unfold A7.obs
  rw [h]
  rfl
abbrev rg7 (v : Int) : Prop := 0 ≤ v ∧ v < 18446744073709551616
def JR7 (kd : Nat) (y : Vals Gh) : Prop := match kd with
  | 1 => rg7 (y.i 2)
  | 2 => rg7 (y.i 2) ∧ rg7 (y.i 3) ∧ rg7 (y.i 4)
  | _ => rg7 (y.i 3) ∧ rg7 (y.i 4)
def JT7 (kd j : Nat) (s : A7) (y : Vals Gh) : Prop := match kd, j with
  | 1, 0 => s.st = 1
  | 1, 1 => s.st = 2 ∧ s.b = y.i 2
  | 1, 2 => s.st = 3 ∧ s.b = y.i 2
  | 1, 3 => s.st = 4 ∧ s.b = y.i 2
  | 2, 0 => s.st = 1 ∧ s.won = false
  | 2, 1 => s.st = 2 ∧ s.won = false ∧ s.b = y.i 2
  | 2, 2 => s.st = 3 ∧ s.won = false ∧ s.b = y.i 2
  | 2, 3 => s.st = 4 ∧ s.won = false ∧ s.b = y.i 2 ∧ s.t = y.i 3 ∧ 0 ≤ IntKind.i64.wrap (y.i 2 - y.i 3)
  | 2, 4 => s.won = false ∧ ((s.st = 4 ∧ s.ahead < 0) ∨ s.st = 6)
  | 2, 5 => s.st = 5 ∧ s.won = false ∧ s.b = y.i 2 ∧ s.x = y.i 4
  | 2, 6 => s.st = 6 ∧ s.won = true ∧ s.x = y.i 4
  | 3, 0 => s.st = 1
  | 3, 1 => s.st = 2 ∧ s.t = y.i 3
  | 3, 2 => s.st = 3 ∧ s.t = y.i 3
  | 3, 3 => s.st = 4 ∧ s.t = y.i 3 ∧ s.x = y.i 4
  | _, _ => False
/-- the machine at a walk's state -/
def JS7 (kd j : Nat) (ν : Env Gh) (s : A7) (y : Vals Gh) : Prop := match Nat.beq j (liv7K kd) with
  | true => s.dn = true ∧ s.cd = y.i 14 ∧ s.v = y.i 15
  | false => s.dn = false ∧ JT7 kd j s y ∧ JR7 kd y ∧ wnt7 (ν.i 0) (ν.i 1) (kI kd) (tk7 kd (ν.i 3)) s = (y.i 10, y.i 11, y.i 12, y.i 13)
def JL7 (kd k : Nat) (ν : Env Gh) (x : Vals Gh) : Prop :=
  0 ≤ x.i 0 ∧ x.i 0 ≤ ν.i 7 + 1 ∧ JS7 kd k ν (it7 kd ν (ν.g 1).t (min (x.i 0) (ν.i 7)).toNat) x
/-- the rows' numbers are the machine's -/
theorem rows7R {ν : Env Gh} {kd n : Nat} (hG : nG (ν.g 2) = (se7 kd ν (ν.g 1).t n).map SC.nums) {i : Int} (h0 : 0 ≤ i) (h1 : i < n) (j : Int) (j0 : 0 ≤ j) (j1 : j < 10) :
    (getC (ν.g 2).s (i * 10 + j)).x = (getC (ob7 kd ν (it7 kd ν (ν.g 1).t i.toNat)) j).x ∧ (getC (ν.g 2).s (i * 10 + j)).l = (getC (ob7 kd ν (it7 kd ν (ν.g 1).t i.toNat)) j).l := by
  have h := getC_nums hG (i * 10 + j)
  rw [se7, seenR_getC (ob7_len _ _) h0 j0 j1 (by omega)] at h
  exact h
end Go.Proofs.Ytlmenjenkpnacaa
end
