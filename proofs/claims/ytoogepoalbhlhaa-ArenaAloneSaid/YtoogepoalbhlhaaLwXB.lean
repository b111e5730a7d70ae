/- The law coachyardlaw06.ArenaAlone: its state, its first loop. -/
import Derived.Test.YtoogepoalbhlhaaLwXA
set_option linter.unusedVariables false
set_option linter.unusedSimpArgs false

section
namespace Go.Proofs.Ytoogepoalbhlhaa
open Go Go.Sy Go.RowKit

def fAa : Nat := 8
def fA6 : Nat := 40
def oAa (P : Program) : Orac := (((oSm P).withCall fA6 trueK).withCallF fAi (sumK P tAi ouAi)).pruned P
def argsAa (v : SV) : List SV := [.int .i64 (.var 11), v]
def viewAa : SV := .sl 0 (.var 8) (.len (.var 0)) (.var 9)
def hpAa : Heap := [(0, .view .u8 (.var 8) (.var 0))]
def pvAa : PC := [(.lt (.var 8) (.lit 0), false), (.lt (.var 9) (.len (.var 0)), false)]
def pcAa : PC := pvAa ++ [(.lt (.var 11) (.lit 1), false), (.lt (.lit 20) (.var 11), false), (.lt (.lit 100) (.len (.var 0)), false), (rangeB (.var 0) 0 255, true)]
/-- the loop that lays n, .., 1 -/
def nFa : Nat := nmAt 12
def eFa (P : Program) : Leaf := capN 0 (capAll P (oAa P) fAa 12 (argsAa viewAa) pcAa hpAa)
def downX : SL := .gl 0 (.app 23 (.var 0) (.var 0) (.var 11) (.lit 0) (.lit 0) (.lit 0) .nil) (.lit 0) (.lit 0)
def ksFa : List Nat := [1, 5, 6, 8, 10, 11, 12]
def hFa (P : Program) : Leaf := let L := eFa P
  reachL { L with fr := keepFr ksFa ((L.fr.set 10 (.sl (nFa + 6) (.lit 0) (.len (.var (nFa + 9))) (.var (nFa + 4)))).set 12 (.int .i64 (.var nFa))), hp := hadd (nFa + 6) (.row .i64 (.var (nFa + 9)) (.var (nFa + 4)) 3) L.hp }
def pFa (P : Program) : PC := [(.lt (.var nFa) (.lit 0), false), (.lt (.lit 20) (.var nFa), false), (.lt (.lit 20) (.len (.var (nFa + 9))), false)] ++ (eFa P).pc
def xFa (P : Program) : Leaf := { hFa P with fr := ((hFa P).fr.set 10 (.sl (nFa + 6) (.lit 0) (.len downX) (.var (nFa + 4)))).set 12 .dead, hp := setList (nFa + 6) downX (hFa P).hp }
def gFa (P : Program) : List Tgt := [⟨.exit 0, (xFa P).fr, (xFa P).hp, [(.lt (.var (nFa + 4)) (.len downX), false)]⟩]
def bodyFa (P : Program) : Option (List Leaf) := codeX P (oAa P) LO7 SZ7 fAa 6000 0 (loopAt P fAa 12) (hFa P).fr (pFa P) (hFa P).hp
def sFa (P : Program) : Option (List SumT) := (bodyFa P).bind (sumsT P nFa LO7 SZ7 (⟨.normal, (hFa P).fr, (hFa P).hp, pFa P⟩ :: gFa P))
def oFa (P : Program) : Orac := (oAa P).withLoop fAa 12 nFa (eFa P).fr (eFa P).hp (mkM nFa (gFa P) ((eFa P).pc.map fun x => (x.1, !x.2)))
def eAa (P : Program) : Leaf := capN 0 (capAll P (oFa P) fAa 16 (argsAa viewAa) pcAa hpAa)
end Go.Proofs.Ytoogepoalbhlhaa
end

section
namespace Go.Proofs.Ytoogepoalbhlhaa
open Go Go.Sy Go.RowKit

def nAa : Nat := nmAt 16
def ksAa : List Nat := [1, 5, 6, 8, 10, 11, 13]
/-- free's place: off 1, len 2, cap 3, room 4, block 6, list 9; has: off 16, len 17, cap 18, room 19, block 5, list 20; the cells: list 8; i: 0; steps: 21; a walk that has ended: 22 on, block 7 -/
def freeS : SV := .sl (nAa + 6) (.var (nAa + 1)) (.var (nAa + 2)) (.var (nAa + 3))
def hasS : SV := .sl (nAa + 5) (.var (nAa + 16)) (.var (nAa + 17)) (.var (nAa + 18))
def memAa (L : Leaf) : Nat := ptrOf (cellN L.hp (ptrOf (fget L.fr 6)) 0)
def h0Aa (P : Program) : Leaf :=
  let L := eAa P
  reachL { L with fr := keepFr ksAa (L.fr.set 10 freeS), hp := hadd (nAa + 6) (.row .i64 (.var (nAa + 9)) (.var (nAa + 4)) 3) (setList (memAa L) (.var (nAa + 8)) L.hp) }
def h1Aa (P : Program) : Leaf :=
  let L := eAa P
  let bl := ptrOf (fget L.fr 8)
  let bw := ptrOf (cellN L.hp bl 1)
  reachL { L with
    fr := keepFr ksAa (((L.fr.set 10 freeS).set 11 hasS).set 13 (.int .i64 (.var nAa)))
    hp := hadd (nAa + 7) (overW nAa 22 180) (hadd (nAa + 5) (.row .i64 (.var (nAa + 20)) (.var (nAa + 19)) 3) (hadd (nAa + 6) (.row .i64 (.var (nAa + 9)) (.var (nAa + 4)) 3) (setList (memAa L) (.var (nAa + 8)) (setCell bl 2 (.int .i64 (.var (nAa + 21))) (setCell bw 0 (.ptr (nAa + 7) (.lit 0)) L.hp))))) }
/-- a list's place -/
def pPlace (off len cap room l : Nat) : PC := [(.lt (.var off) (.lit 0), false), (.lt (.lit 1000) (.var off), false), (.lt (.var len) (.lit 0), false), (.lt (.lit 20) (.var len), false), (.lt (.len (.var l)) (.add (.var off) (.var len)), false), (.lt (.lit 10000) (.len (.var l)), false), (.lt (.var room) (.add (.var off) (.var cap)), false), (.lt (.var cap) (.var len), false)]
def pMemA : PC := [(.eq (.len (.var (nAa + 8))) (.add (.var 11) (.lit 1)), true), (.lt (.lit 1) (.len (.var (nAa + 8))), true), (.lt (.len (.var (nAa + 8))) (.lit 100), true)]
def hdA : SI := .nth (.var (nAa + 8)) (.lit 0)
def lowA : SI := .wrap .u32 hdA
def dA (i : SI) : SI := .nth (.var 0) i
def pD (i : SI) : PC := [(.lt (dA i) (.lit 0), false), (.lt (.lit 255) (dA i), false)]
def pI : PC := [(.lt (.var nAa) (.lit 0), false), (.lt (.lit 100) (.var nAa), false)]
def pFree : PC := pPlace (nAa + 1) (nAa + 2) (nAa + 3) (nAa + 4) (nAa + 9) ++ [(.lt (.var 11) lowA, false)]
def pHas : PC := pPlace (nAa + 16) (nAa + 17) (nAa + 18) (nAa + 19) (nAa + 20)
def p0Aa (P : Program) : PC := pFree ++ (pMemA ++ (pD (.lit 0) ++ (eAa P).pc))
def p1Aa (P : Program) : PC := pI ++ (pFree ++ (pHas ++ (pMemA ++ (pD (.var nAa) ++ (eAa P).pc))))
def headsAa (P : Program) : List Tgt := [⟨.normal, (h0Aa P).fr, (h0Aa P).hp, p0Aa P⟩, ⟨.normal, (h1Aa P).fr, (h1Aa P).hp, p1Aa P⟩]
def deadAa (P : Program) : List SV := (h1Aa P).fr.map fun _ => .dead
def tgAa (P : Program) : List Tgt := [⟨.exit 2, deadAa P, [], []⟩, ⟨.ret, (deadAa P).set 4 (.bool (.lit false)), [], [(.lit false, true)]⟩]
def inA (i : SI) : SB := .lt i (.len (.var 0))
def fullA : PC := [(.lt (.var (nAa + 2)) (.lit 1), false), (.lt lowA (.lit 1), false)]
def noneA : PC := [(.lt (.var (nAa + 2)) (.lit 1), true), (.eq lowA (.lit 0), true)]
def cases0A : List PC := [[(inA (.lit 0), false)], (inA (.lit 0), true) :: (.lt (dA (.lit 0)) (.lit 128), true) :: fullA, (inA (.lit 0), true) :: (.lt (dA (.lit 0)) (.lit 128), false) :: fullA]
def takesA : List PC := let i : SI := .var nAa; [[(.lt (dA i) (.lit 128), true)], [(.lt (dA i) (.lit 128), false), (.lt (.var (nAa + 17)) (.lit 1), true)]]
def roomH (b : Bool) : SB × Bool := (.lt (.var (nAa + 18)) (.add (.var (nAa + 17)) (.lit 1)), b)
def roomFr (b : Bool) : SB × Bool := (.lt (.var (nAa + 3)) (.add (.var (nAa + 2)) (.lit 1)), b)
def atA : SI := .tmod (dA (.var nAa)) (.var (nAa + 17))
def itA : SI := .nth (.var (nAa + 20)) (.add (.var (nAa + 16)) atA)
def putA : PC := [(.lt (dA (.var nAa)) (.lit 128), false), (.lt (.var (nAa + 17)) (.lit 1), false), (.lt atA (.lit 0), false), (.lt (.lit 20) atA, false), (.lt atA (.var (nAa + 17)), true), (.lt (.var (nAa + 18)) atA, false), (.lt (.sub (.var (nAa + 17)) (.add atA (.lit 1))) (.lit 0), false), (.lt (.add (.var (nAa + 16)) atA) (.len (.var (nAa + 20))), true), (.lt (.lit 20) itA, false), (.lt itA (.lit 1), false), (.lt (.var 11) itA, false), (.lt (.var (nAa + 2)) (.lit 20), true)]
def moreH (b : Bool) : SB × Bool := (.lt (.add atA (.lit 1)) (.var (nAa + 18)), b)
def cases1A : List PC := [(inA (.var nAa), false)] :: (takesA.flatMap (fun t => [(inA (.var nAa), true) :: (t ++ noneA), (inA (.var nAa), true) :: (t ++ (fullA ++ [roomH true])), (inA (.var nAa), true) :: (t ++ (fullA ++ [roomH false]))])
  ++ [(inA (.var nAa), true) :: (putA ++ [roomFr true, moreH true]), (inA (.var nAa), true) :: (putA ++ [roomFr true, moreH false]), (inA (.var nAa), true) :: (putA ++ [roomFr false, moreH true]), (inA (.var nAa), true) :: (putA ++ [roomFr false, moreH false])])
def walkAa (P : Program) (k : Nat) (q : PC) : Option (List Leaf) := codeX P (oFa P) LO7 SZ7 fAa 6000 0 (loopAt P fAa 16) (hdAt (headsAa P) k).fr (q ++ (hdAt (headsAa P) k).pc) (hdAt (headsAa P) k).hp
def bodyAa (P : Program) (k : Nat) (q : PC) : Option (List SumT) := (walkAa P k q).bind fun ls => sumsHd P nAa LO7 SZ7 (headsAa P) (tgAa P) (ls.map withRows)
end Go.Proofs.Ytoogepoalbhlhaa
end

section
namespace Go.Proofs.Ytoogepoalbhlhaa
open Go Go.Sy Go.RowKit

/-- nothing is said of less than one node, more than 20, more than 100 deeds. -/
def pcA1 (pv : PC) : PC := (.lt (.var 11) (.lit 1), true) :: pv
def pcA2 (pv : PC) : PC := (.lt (.var 11) (.lit 1), false) :: (.lt (.lit 20) (.var 11), true) :: pv
def pcA3 (pv : PC) : PC := (.lt (.var 11) (.lit 1), false) :: (.lt (.lit 20) (.var 11), false) :: (.lt (.lit 100) (.len (.var 0)), true) :: pv
def pcA4 : PC := [(.lt (.var 11) (.lit 1), false), (.lt (.lit 20) (.var 11), false)]
end Go.Proofs.Ytoogepoalbhlhaa
end
