/- The law coachyardlaw32.LaneAlone: its state, its loop's heads and cases. -/
import Derived.Test.YtlmenjenkpnacaaLwXA
import Derived.Test.YtlmenjenkpnacaaLwXB
import Derived.Test.YtlmenjenkpnacaaLwXC
import Derived.Test.YtlmenjenkpnacaaLwXO
set_option linter.unusedVariables false
set_option linter.unusedSimpArgs false

section
namespace Go.Proofs.Ytlmenjenkpnacaa
open Go Go.Sy Go.RowKit

def fLa : Nat := 7
def sLa : Nat := 12
def nLa : Nat := nmAt sLa
def oSq (P : Program) : Orac := ((qO.withOp (opSliceT P)).withOp (opAppendW P)).withOp (opLoadS P)
def oLa (P : Program) : Orac := ((((((oSq P).withCall fA32 trueK).withCallF fLn (sumK P tLn (splitL shLn))).withCallF fR32 (sumK P tR32 (splitL shR32))).withCallF fLi (sumK P tLi (splitL shLi))).withCallF 20 (kSame P)).pruned P
def argsLa : List SV := [.int .i64 (.var 11), .int .u64 (.var 12), .sl 0 (.var 8) (.len (.var 0)) (.var 9)]
def hpLa : Heap := [(0, .view .u8 (.var 8) (.var 0))]
/-- what is known: a size that may be, of 32 slots at most; what the arguments' types say. -/
def pcLa : PC := [(.lt (.var 8) (.lit 0), false), (.lt (.var 9) (.len (.var 0)), false), (.lt (.var 11) (.lit 2), false), (.lt (.lit 32) (.var 11), false), (powB (.var 11), true), (.lt (.lit 100) (.len (.var 0)), false),
  (.lt (.var 12) (.lit 0), false), (.lt (.lit 18446744073709551615) (.var 12), false), (rangeB (.var 0) 0 255, true)]
def eLa (P : Program) : Leaf := capN 0 (capAll P (oLa P) fLa sLa argsLa pcLa hpLa)
def szLa : SI := .var 11
def lLa : SL := .var (nLa + 8)
def endLa : SI := .nth lLa (.lit 0)
def begLa : SI := .nth lLa (.lit 1)
def nInLa : SI := .var (nLa + 2)
/-- the first round's head: the entry, its cells as they are at any round -/
def ksLa : List Nat := [0, 2, 7, 8, 10, 12, 13]
def brLa (P : Program) : Nat := ptrOf (cellN (eLa P).hp (ptrOf (fget (eLa P).fr 8)) 0)
def h0La (P : Program) : Leaf := reachL { eLa P with fr := keepFr ksLa (eLa P).fr, hp := setList (brLa P) lLa (eLa P).hp }
/-- the head: m in slot 8, the loom in slot 10, the list in slot 12, i in slot 13 -/
def hLa (P : Program) : Leaf :=
  let L := eLa P
  let bl := ptrOf (fget L.fr 10)
  let bw := ptrOf (cellN L.hp bl 1)
  let n := nLa
  reachL { L with
    fr := keepFr ksLa ((L.fr.set 12 (.sl (n + 6) (.var (n + 1)) (.var (n + 2)) (.var (n + 3)))).set 13 (.int .i64 (.var n)))
    hp := hadd (n + 7) (overW n 10 194) (hadd (n + 6) (.row .u64 (.var (n + 9)) (.var (n + 4)) 53) (setList (brLa P) lLa (setCell bl 2 (.int .i64 (.var (n + 5))) (setCell bw 0 (.ptr (n + 7) (.lit 0)) L.hp)))) }
/-- i; the list's own place: off, len, cap, the block's room, what is in it -/
def pInLa : PC := let n := nLa
  [(.lt (.var n) (.lit 0), false), (.lt (.lit 100) (.var n), false), (.lt (.var (n + 1)) (.lit 0), false), (.lt (.lit 1000) (.var (n + 1)), false), (.lt nInLa (.lit 0), false), (.lt (.lit 32) nInLa, false), (.lt szLa nInLa, false), (.lt (.len (.var (n + 9))) (.add (.var (n + 1)) nInLa), false), (.lt (.lit 10000) (.len (.var (n + 9))), false), (.lt (.var (n + 4)) (.add (.var (n + 1)) (.var (n + 3))), false), (.lt (.var (n + 3)) nInLa, false)]
def manyOf (u t : SI) : SI := .wrap .i64 (.wrap .u64 (.sub u t))
def sizeP : PC := [(.eq (.bits 0 .i64 szLa (.sub szLa (.lit 1))) (.lit 0), true), (.eq (.len lLa) (.add (.mul (.lit 2) szLa) (.lit 2)), true)]
def rowP (n : SI) : PC := [(.eq (manyOf endLa begLa) n, true), (.eq (manyOf (.wrap .u64 (.add endLa (.lit 1))) begLa) (SI.mkAdd n (.lit 1)), true), (.eq (manyOf endLa (.wrap .u64 (.add begLa (.lit 1)))) (SI.mkSub n (.lit 1)), true)]
def dLa (i : SI) : SI := .nth (.var 0) i
def deedP (i : SI) : PC := [(.lt (dLa i) (.lit 0), false), (.lt (.lit 255) (dLa i), false)]
def p0La (P : Program) : PC := sizeP ++ (deedP (.lit 0) ++ (rowP (.lit 0) ++ (eLa P).pc))
def pLa (P : Program) : PC := pInLa ++ (sizeP ++ (deedP (.var nLa) ++ (rowP nInLa ++ (eLa P).pc)))
def headsLa (P : Program) : List Tgt := [⟨.normal, (h0La P).fr, (h0La P).hp, p0La P⟩, ⟨.normal, (hLa P).fr, (hLa P).hp, pLa P⟩]
def tgLa (P : Program) : List Tgt := [⟨.exit 0, (hLa P).fr.map fun _ => .dead, [], []⟩, ⟨.ret, ((hLa P).fr.map fun _ => .dead).set 6 (.bool (.lit false)), [], [(.lit false, true)]⟩]
/-- whose turn it is, where one puts, where one takes -/
def turnX (x : SI) : SI := .add (.lit 2) (.mul (.lit 2) (.bits 0 .u64 x (.sub szLa (.lit 1))))
def dPut : SI := manyOf (.nth lLa (turnX endLa)) endLa
def dTake : SI := .wrap .i64 (.wrap .u64 (.sub (.wrap .u64 (.sub (.nth lLa (turnX begLa)) begLa)) (.lit 1)))
def isIt (d : SI) : PC := [(.lt d (.lit 0), false), (.lt (.lit 0) d, false)]
def inI (i : SI) : SB := .lt i (.len (.var 0))
def putI (i : SI) : SB := .lt (dLa i) (.lit 100)
def cases0 : List PC := [[(inI (.lit 0), false)], (inI (.lit 0), true) :: (putI (.lit 0), false) :: isIt dPut, [(inI (.lit 0), true), (putI (.lit 0), true), (.lt dTake (.lit 0), true)]]
def cases1 : List PC :=
  let i : SI := .var nLa
  let n : SI := nInLa
  let c : SI := .var (nLa + 3)
  [[(inI i, false)],
   [(inI i, true), (putI i, false), (.lt n szLa, true), (.lt c (.add n (.lit 1)), false)] ++ isIt dPut,
   [(inI i, true), (putI i, false), (.lt n szLa, true), (.lt c (.add n (.lit 1)), true)] ++ isIt dPut,
   [(inI i, true), (putI i, false), (.lt n szLa, false), (.lt dPut (.lit 0), true)],
   [(inI i, true), (putI i, true), (.lt n (.lit 1), true), (.lt dTake (.lit 0), true)],
   [(inI i, true), (putI i, true), (.lt n (.lit 1), false), (.lt n (.lit 2), true), (.lt c (.lit 2), true)] ++ isIt dTake,
   [(inI i, true), (putI i, true), (.lt n (.lit 1), false), (.lt n (.lit 2), true), (.lt c (.lit 2), false)] ++ isIt dTake,
   [(inI i, true), (putI i, true), (.lt n (.lit 2), false)] ++ isIt dTake]
def walkLa (P : Program) (k : Nat) (q : PC) : Option (List Leaf) := codeX P (oLa P) LO7 SZ7 fLa 6000 0 (loopAt P fLa sLa) (hdAt (headsLa P) k).fr (q ++ (hdAt (headsLa P) k).pc) (hdAt (headsLa P) k).hp
def bodyLa (P : Program) (k : Nat) (q : PC) : Option (List SumT) := (walkLa P k q).bind fun ls => sumsHd P nLa LO7 SZ7 (headsLa P) (tgLa P) (ls.map withRows)
end Go.Proofs.Ytlmenjenkpnacaa
end
