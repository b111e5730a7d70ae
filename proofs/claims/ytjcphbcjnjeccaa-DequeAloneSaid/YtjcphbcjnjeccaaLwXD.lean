/- Plain laws of a deque's cells: what a push, a pop, a steal make of them. -/
import Derived.Test.YtjcphbcjnjeccaaLwXA
import Derived.Test.YtjcphbcjnjeccaaSyK
import Derived.Test.YtjcphbcjnjeccaaLwXB
set_option linter.unusedVariables false
set_option linter.unusedSimpArgs false

section
namespace Go.Proofs.Ytjcphbcjnjeccaa
open Go Go.Sy Go.RowKit

/-- Cells with n words from number t on: the top, the bottom, the slots. -/
structure DQ (l : List Int) (size t : Int) (n : Nat) : Prop where
  pow : Pow size
  len : (l.length : Int) = size + 2
  t0 : 0 ≤ t
  t1 : t < 18446744073709551616
  top : l.getD 0 0 = t
  bot : l.getD 1 0 = (t + n) % 18446744073709551616
  room : (n : Int) ≤ size
abbrev sl (l : List Int) (size t : Int) (n : Nat) : List Int := slotsG l 0 size t n 18446744073709551616 2 1
theorem mask_mod' (t c : Int) (h : Pow c) : bitsDen 0 .u64 t (c - 1) = t % 18446744073709551616 % c := by
  have e := mask_mod t c h
  have := h.le
  rwa [wrapS (c - 1) (by omega) (by omega), wrapU, Int.emod_eq_of_lt (by omega) (by omega)] at e
theorem bits_pow (c : Int) (h : Pow c) : bitsDen 0 .i64 c (c - 1) = 0 := by
  have := h.le
  have e := (bits_iff c (by omega) (by omega)).2 h
  rwa [wrapS (c - 1) (by omega) (by omega)] at e
theorem slot_lt (t c : Int) (h : Pow c) : 0 ≤ bitsDen 0 .u64 t (c - 1) ∧ bitsDen 0 .u64 t (c - 1) < c := by
  have := h.le
  rw [mask_mod' t c h]
  exact ⟨Int.emod_nonneg _ (by omega), Int.emod_lt_of_pos _ (by omega)⟩
theorem many_eq {t n : Int} (h0 : 0 ≤ t) (h1 : t < 18446744073709551616) (h2 : -1 ≤ n) (h3 : n ≤ 1000) : IntKind.i64.wrap (IntKind.u64.wrap ((t + n) % 18446744073709551616 - t)) = n := by
  rw [wrapU, IntKind.wrap_i64]; omega
section
variable {l : List Int} {size t : Int} {n : Nat}
theorem DQ.at_ (h : DQ l size t n) {j : Nat} (hj : j < n) : l.getD (2 + bitsDen 0 .u64 ((t + j) % 18446744073709551616) (size - 1)).toNat 0 = (sl l size t n).getD j 0 := by
  rw [slotsG_getD hj, mask_mod' _ _ h.pow, Int.emod_emod_of_dvd _ (Int.dvd_refl _)]
  congr 2
  omega
/-- the bottom laid back by one -/
theorem DQ.pop (h : DQ l size t (n + 1)) (v : Int) (hv : v = (t + n) % 18446744073709551616) : DQ (l.set 1 v) size t n ∧ sl (l.set 1 v) size t n = (sl l size t (n + 1)).take n := by
  have hp := h.pow.le
  have hl := h.len
  have hr := h.room
  refine ⟨⟨h.pow, by simpa using h.len, h.t0, h.t1, by rw [getD_set_ne _ _ _ _ (by omega)]; exact h.top, by rw [getD_set_eq _ _ _ (by omega), hv], by omega⟩, ?_⟩
  unfold sl
  rw [← slotsG_init, slotsG_front (by omega) (by omega) (by omega)]
/-- the last one won -/
theorem DQ.pop1 (h : DQ l size t 1) (u v : Int) (hu : u = (t + 1) % 18446744073709551616) (hv : v = (t + 1) % 18446744073709551616) : DQ ((l.set 0 u).set 1 v) size u 0 := by
  have hp := h.pow.le
  have hl := h.len
  have := h.t0
  have := h.t1
  refine ⟨h.pow, by simpa using h.len, by omega, by omega, ?_, ?_, by omega⟩
  · rw [getD_set_ne _ _ _ _ (by omega), getD_set_eq _ _ _ (by omega)]
  · rw [getD_set_eq _ _ _ (by simp; omega)]; omega
theorem DQ.steal (h : DQ l size t (n + 1)) (u : Int) (hu : u = (t + 1) % 18446744073709551616) : DQ (l.set 0 u) size u n ∧ sl (l.set 0 u) size u n = (sl l size t (n + 1)).drop 1 := by
  have hp := h.pow.le
  have hl := h.len
  have := h.t0
  have := h.t1
  have hr := h.room
  refine ⟨⟨h.pow, by simpa using h.len, by omega, by omega, getD_set_eq _ _ _ (by omega), ?_, by omega⟩, ?_⟩
  · rw [getD_set_ne _ _ _ _ (by omega), h.bot]; omega
  · unfold sl
    rw [slotsG_front (by omega) (by omega) (by omega), hu, slotsG_mod, slotsG_tail]
theorem DQ.push (h : DQ l size t n) (hn : (n : Int) < size) (u v : Int) (hu : u = (t + (n + 1 : Nat)) % 18446744073709551616) (i : Nat) (hi : i = (2 + bitsDen 0 .u64 (l.getD 1 0) (size - 1)).toNat) : DQ ((l.set 1 u).set i v) size t (n + 1) ∧ sl ((l.set 1 u).set i v) size t (n + 1) = sl l size t n ++ [v] := by
  have hp := h.pow.le
  have hl := h.len
  have hs := slot_lt (l.getD 1 0) size h.pow
  have hs' := mask_mod' (l.getD 1 0) size h.pow
  rw [h.bot, Int.emod_emod_of_dvd _ (Int.dvd_refl _)] at hs'
  rw [h.bot] at hi hs
  refine ⟨⟨h.pow, by simpa using h.len, h.t0, h.t1, ?_, ?_, by omega⟩, ?_⟩
  · rw [getD_set_ne _ _ _ _ (by omega), getD_set_ne _ _ _ _ (by omega)]; exact h.top
  · rw [getD_set_ne _ _ _ _ (by omega), getD_set_eq _ _ _ (by omega), hu]
  · unfold sl
    rw [slotsG_push (pow_dvd64 h.pow) (by omega) (by omega) hn ?_ (by simp; omega), slotsG_front (by omega) (by omega) (by omega)]
    rw [hi, hs']
    congr 1
    omega
end
end Go.Proofs.Ytjcphbcjnjeccaa
end

section
namespace Go.Proofs.Ytjcphbcjnjeccaa
open Go Go.Sy Go.RowKit

def fDn : Nat := 4
def sDn : Nat := 13
def nDn : Nat := nmAt sDn
def oSm (P : Program) : Orac := ((noOrac.withOp (opSliceT P)).withOp (opAppendW P)).withOp (opLoadS P)
def oDn (P : Program) : Orac := (((((oSm P).withCall fA7 trueK).withCallF fDq (sumK P tDq shDq)).withCallF fR7 (sumK P tR7 shR7)).withCallF 20 (kSame P)).pruned P
def argsDn : List SV := [.int .i64 (.var 11), .int .u64 (.var 12), .sl 0 (.var 8) (.len (.var 0)) (.var 9)]
def hpDn : Heap := [(0, .view .u8 (.var 8) (.var 0))]
/-- all of a list's numbers lie in between -/
def rangeB (l : SL) (a b : Int) : SB := .gb 0 (.app 45 (.var 0) (.var 0) (.lit a) (.lit b) (.lit 0) (.lit 0) l) (.lit 0) (.lit 0)
/-- what is known: a size that may be, of 32 slots at most; what the arguments' types say. -/
def pcDn : PC := [(.lt (.var 8) (.lit 0), false), (.lt (.var 9) (.len (.var 0)), false), (.lt (.var 11) (.lit 2), false), (.lt (.lit 32) (.var 11), false), (powB (.var 11), true), (rightB 1 (.lit 0) (.var 11), true), (.lt (.lit 100) (.len (.var 0)), false),
  (.lt (.var 12) (.lit 0), false), (.lt (.lit 18446744073709551615) (.var 12), false), (rangeB (.var 0) 0 255, true)]
def eDn (P : Program) : Leaf := capN 0 (capAll P (oDn P) fDn sDn argsDn pcDn hpDn)
/-- a walk that has ended -/
def overW (n j : Nat) : SBk := .cells [.int .i64 (.var (n + j)), .int .i64 (.var (n + j + 1)), .int .u64 (.var (n + j + 2)), .int .u64 (.var (n + j + 3)), .nilFunc, .bool (.lit false), .nilPtr, .nilFunc, .bool (.lit true), .int .i64 (.var (n + j + 4)), .int .u64 (.var (n + j + 5)), .nilSl, .nilSl] 168 true
def ptrOf : SV → Nat
  | .ptr b _ => b
  | .sl b _ _ _ => b
  | _ => 0
def cellN (hp : Heap) (b k : Nat) : SV := match hget b hp with
  | some (.cells cs _ _) => (cs[k]?).getD .dead
  | _ => .dead
def setCell (b k : Nat) (v : SV) (hp : Heap) : Heap := match hget b hp with
  | some (.cells cs t x) => hset b (.cells (cs.set k v) t x) hp
  | _ => hp
def setList (b : Nat) (l : SL) (hp : Heap) : Heap := match hget b hp with
  | some (.row k _ c t) => hset b (.row k l c t) hp
  | _ => hp
def keepFr (ks : List Nat) (fr : List SV) : List SV := fr.zipIdx.map fun x => if ks.any (Nat.beq x.2) then x.1 else .dead
/-- the head: m in slot tm, the loom in slot tl, the list in slot ti, i in slot tn -/
def hdAlone (n tm tl ti tn : Nat) (ty : Nat) (L : Leaf) : Leaf :=
  let bm := ptrOf (fget L.fr tm)
  let bl := ptrOf (fget L.fr tl)
  let br := ptrOf (cellN L.hp bm 0)
  let bw := ptrOf (cellN L.hp bl 1)
  { L with
    fr := (L.fr.set ti (.sl (n + 6) (.var (n + 1)) (.var (n + 2)) (.var (n + 3)))).set tn (.int .i64 (.var n))
    hp := hadd (n + 7) (overW n 10) (hadd (n + 6) (.row .u64 (.var (n + 9)) (.var (n + 4)) ty) (setList br (.var (n + 8)) (setCell bl 2 (.int .i64 (.var (n + 5))) (setCell bw 0 (.ptr (n + 7) (.lit 0)) L.hp)))) }
/-- What the frame leads to. -/
def insA (n : Nat) (l : List Nat) : List Nat := if l.any (Nat.beq n) then l else n :: l
def ptrs : List SV → List Nat → List Nat
  | [], ns => ns
  | .ptr b _ :: r, ns => ptrs r (insA b ns)
  | .sl b _ _ _ :: r, ns => ptrs r (insA b ns)
  | _ :: r, ns => ptrs r ns
def reachB (hp : Heap) (ns : List Nat) : List Nat := hp.foldl (fun ns x => if ns.any (Nat.beq x.1) then (match x.2 with | .cells cs _ _ => ptrs cs ns | _ => ns) else ns) ns
def reachK (hp : Heap) : Nat → List Nat → List Nat
  | 0, ns => ns
  | k + 1, ns => reachK hp k (reachB hp ns)
def reachL (L : Leaf) : Leaf := let ns := reachK L.hp L.hp.length (ptrs L.fr [])
  { L with hp := L.hp.filter fun x => ns.any (Nat.beq x.1) }
def ksDn : List Nat := [0, 2, 7, 8, 10, 12, 13]
/-- the first round's head: the entry -/
def h0Dn (P : Program) : Leaf := reachL { eDn P with fr := keepFr ksDn (eDn P).fr }
def hDn (P : Program) : Leaf := let L := hdAlone nDn 8 10 12 13 38 (eDn P)
  reachL { L with fr := keepFr ksDn L.fr }
def bDn (P : Program) : PC := (eDn P).pc.map fun x => (x.1, !x.2)
/-- i; the list's own place: off, len, cap, the block's room, what is in it -/
def pIn (n : Nat) (sz : SI) : PC := [(.lt (.var n) (.lit 0), false), (.lt (.lit 100) (.var n), false), (.lt (.var (n + 1)) (.lit 0), false), (.lt (.lit 1000) (.var (n + 1)), false), (.lt (.var (n + 2)) (.lit 0), false), (.lt (.lit 32) (.var (n + 2)), false), (.lt sz (.var (n + 2)), false), (.lt (.len (.var (n + 9))) (.add (.var (n + 1)) (.var (n + 2))), false), (.lt (.lit 10000) (.len (.var (n + 9))), false), (.lt (.var (n + 4)) (.add (.var (n + 1)) (.var (n + 3))), false), (.lt (.var (n + 3)) (.var (n + 2)), false)]
/-- a size that may be; a row of so many cells -/
def pSize (sz N L : SI) : PC := [(.eq (.bits 0 .i64 sz (.sub sz (.lit 1))) (.lit 0), true), (.eq L N, true), (.lt (.lit 3) L, true), (.lt L (.lit 100), true)]
def slotX (sz n : SI) : SI := .add (.lit 2) (.bits 0 .u64 n (.sub sz (.lit 1)))
def tDn : SI := .nth (.var (nDn + 8)) (.lit 0)
def uDn : SI := .nth (.var (nDn + 8)) (.lit 1)
def lDn : SI := .len (.var (nDn + 8))
def szDn : SI := .var 11
def nInDn : SI := .var (nDn + 2)
def dDn (i : SI) : SI := .nth (.var 0) i
def manyOf (u t : SI) : SI := .wrap .i64 (.wrap .u64 (.sub u t))
def pRow (sz t u n : SI) : PC := [(.lt (slotX sz t) (.add sz (.lit 2)), true), (.lt (slotX sz u) (.add sz (.lit 2)), true), (.lt (slotX sz (.wrap .u64 (.sub u (.lit 1)))) (.add sz (.lit 2)), true),
  (.eq (manyOf u t) n, true),
  (.eq (manyOf (.wrap .u64 (.sub u (.lit 1))) t) (SI.mkSub n (.lit 1)), true),
  (.eq (manyOf (.wrap .u64 (.add u (.lit 1))) t) (SI.mkAdd n (.lit 1)), true),
  (.eq (manyOf u (.wrap .u64 (.add t (.lit 1)))) (SI.mkSub n (.lit 1)), true),
  (.eq (.wrap .u64 (.add (.wrap .u64 (.sub u (.lit 1))) (.lit 1))) u, true)]
/-- At the first round: top and bottom are 'from'. -/
def p0Dn (P : Program) : PC := [(.eq (.bits 0 .i64 szDn (.sub szDn (.lit 1))) (.lit 0), true), (.lt (dDn (.lit 0)) (.lit 0), false), (.lt (.lit 255) (dDn (.lit 0)), false)] ++ (pRow szDn (.var 12) (.var 12) (.lit 0) ++ (eDn P).pc)
def pDn (P : Program) : PC := pIn nDn szDn ++ (pSize szDn (.add szDn (.lit 2)) lDn ++ ([(.lt (dDn (.var nDn)) (.lit 0), false), (.lt (.lit 255) (dDn (.var nDn)), false)] ++ (pRow szDn tDn uDn nInDn ++ (eDn P).pc)))
def headsDn (P : Program) : List Tgt := [⟨.normal, (h0Dn P).fr, (h0Dn P).hp, p0Dn P⟩, ⟨.normal, (hDn P).fr, (hDn P).hp, pDn P⟩]
def tgDn (P : Program) : List Tgt := [⟨.exit 0, (hDn P).fr.map fun _ => .dead, [], []⟩, ⟨.ret, ((hDn P).fr.map fun _ => .dead).set 6 (.bool (.lit false)), [], [(.lit false, true)]⟩]
/-- the deed's kinds -/
def kindI (i : SI) (k : Int) : SB := .eq (.tmod (dDn i) (.lit 4)) (.lit k)
def inI (i : SI) : SB := .lt i (.len (.var 0))
def cases0 : List PC := [[(inI (.lit 0), false)], [(inI (.lit 0), true), (kindI (.lit 0) 1, true)], [(inI (.lit 0), true), (kindI (.lit 0) 2, true)], [(inI (.lit 0), true), (kindI (.lit 0) 0, true)], [(inI (.lit 0), true), (kindI (.lit 0) 3, true)]]
def cases1 : List PC :=
  let i : SI := .var nDn
  let n : SI := .var (nDn + 2)
  let c : SI := .var (nDn + 3)
  [[(inI i, false)],
   [(inI i, true), (kindI i 1, true), (.lt n (.lit 1), true)],
   [(inI i, true), (kindI i 1, true), (.lt n (.lit 1), false), (.lt n (.lit 2), true)],
   [(inI i, true), (kindI i 1, true), (.lt n (.lit 2), false)],
   [(inI i, true), (kindI i 2, true), (.lt n (.lit 1), true)],
   [(inI i, true), (kindI i 2, true), (.lt n (.lit 1), false), (.lt n (.lit 2), true), (.lt c (.lit 2), true)],
   [(inI i, true), (kindI i 2, true), (.lt n (.lit 1), false), (.lt n (.lit 2), true), (.lt c (.lit 2), false)],
   [(inI i, true), (kindI i 2, true), (.lt n (.lit 2), false)],
   [(inI i, true), (kindI i 0, true), (.lt n szDn, false)],
   [(inI i, true), (kindI i 0, true), (.lt n szDn, true), (.lt c (.add n (.lit 1)), false)],
   [(inI i, true), (kindI i 0, true), (.lt n szDn, true), (.lt c (.add n (.lit 1)), true)],
   [(inI i, true), (kindI i 3, true), (.lt n szDn, false)],
   [(inI i, true), (kindI i 3, true), (.lt n szDn, true), (.lt c (.add n (.lit 1)), false)],
   [(inI i, true), (kindI i 3, true), (.lt n szDn, true), (.lt c (.add n (.lit 1)), true)]]
def qAt (l : List PC) (k : Nat) : PC := (l[k]?).getD []
def hdAt (l : List Tgt) (k : Nat) : Tgt := (l[k]?).getD ⟨.bad, [], [], []⟩
def walkDn (P : Program) (k : Nat) (q : PC) : Option (List Leaf) := codeX P (oDn P) LO7 SZ7 fDn 6000 0 (loopAt P fDn sDn) (hdAt (headsDn P) k).fr (q ++ (hdAt (headsDn P) k).pc) (hdAt (headsDn P) k).hp
def bodyDn (P : Program) (k : Nat) (q : PC) : Option (List SumT) := (walkDn P k q).bind fun ls => sumsHd P nDn LO7 SZ7 (headsDn P) (tgDn P) (ls.map withRows)
end Go.Proofs.Ytjcphbcjnjeccaa
end
