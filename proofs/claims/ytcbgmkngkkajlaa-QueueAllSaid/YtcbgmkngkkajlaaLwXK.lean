/- queue.Line.All of any cells: its state, its loop's head. -/
import Derived.Test.YtcbgmkngkkajlaaLwXA
import Derived.Test.YtcbgmkngkkajlaaLwXV
import Derived.Test.YtcbgmkngkkajlaaSyL
import Derived.Test.YtcbgmkngkkajlaaSyM
set_option linter.unusedVariables false
set_option linter.unusedSimpArgs false

section
namespace Go.Proofs.Ytcbgmkngkkajlaa
open Go Go.Sy Go.RowKit

def fQv : Nat := 13
def hpQv : Heap := [(0, .cells [.sl 1 (.lit 0) (.len (.var 0)) (.var 3)] 75 true), (1, .row .u64 (.var 0) (.var 3) 46)]
def pcQv0 : PC := [(.lt (.var 0) (.lit 0), false), (.lt (.lit 65535) (.var 0), false), (.lt (.var 1) (.lit 2), false), (.lt (.lit 4096) (.var 1), false), (.lt (.add (.add (.var 0) (.mul (.lit 3) (.var 1))) (.lit 2)) (.len (.var 0)), true), (.lt (.lit 120) (.len (.var 0)), false)]
def tQv : Tmpl := ⟨[.agg [.int .i64 (.var 0), .int .i64 (.var 1)], .ptr 0 (.lit 0)], pcQv0, hpQv⟩
def nQv : Nat := nmAt 8
def oQv (P : Program) : Orac := (((oSm P).withOp (opBool P)).withOp (opSliceU P)).pruned P
def eQv (P : Program) : Leaf := capN 0 (capAll P (oQv P) fQv 8 tQv.args tQv.pc tQv.hp)
def visG : SG := .app 51 (.var 0) (.var 0) (.var 0) (.var 1) (.lit 0) (.lit 0) (.var 0)
def visL : SL := .gl 0 visG (.lit 0) (.lit 0)
def visB : SB := .gb 0 visG (.lit 0) (.lit 0)
def seenQ (P : Program) : Nat := match (eQv P).fr[8]? with | some v => ptrOf v | none => 0
def reQ (l : SL) : SBk → SBk
  | .res (.app f g h a b c d _) => .res (.app f g h a b c d l)
  | x => x
def headsQv (P : Program) : List Tgt := let L := hdN nQv 9 1 .u64 46 (let L := eQv P
  { L with fr := (keepFr [2, 7, 8] L.fr).set 10 (.int .u64 (.var nQv)), hp := L.hp.map fun x => if Nat.beq x.1 (seenQ P) then (x.1, reQ (.var (nQv + 2)) x.2) else x })
  [⟨.normal, L.fr, L.hp, [(.lt (.lit 4096) (.len (.var (nQv + 1))), false), (.eq (.len (.var (nQv + 2))) (.add (.var 1) (.lit 1)), true)] ++ (eQv P).pc⟩]
def retQv (P : Program) (o : SI) (pc : PC) : Tgt := let L := eQv P
  ⟨.ret, ((keepFr [] L.fr).set 4 (.sl (nQv + 1) o (.sub (.len visL) (.lit 1)) (.sub (.var (nQv + 1)) (.lit 1)))).set 5 (.int .i64 (.lit 0)), hadd (nQv + 1) (.row .u64 visL (.var (nQv + 1)) 46) (L.hp.filter fun x => Nat.ble x.1 1), [(visB, true), (.lt (.lit 0) (.len visL), true)] ++ pc⟩
def gQv (P : Program) : List Tgt := let L := eQv P
  [retQv P (.lit 1) [], retQv P (.lit 0) [(.lt (.len visL) (.lit 2), true)],
   ⟨.ret, ((keepFr [] L.fr).set 4 .nilSl).set 5 (.int .i64 (.lit 9)), L.hp.filter fun x => Nat.ble x.1 1, [(visB, false)]⟩]
def bdQv (P : Program) : PC := (eQv P).pc.map fun x => (x.1, !x.2)
def hdQv (P : Program) : Tgt := hdAt (headsQv P) 0
def body0Qv (P : Program) : Option (List Leaf) := codeX P (oQv P) LO7 SZ7 fQv 6000 0 (loopAt P fQv 8) (eQv P).fr ((bdQv P).map fun x => (x.1, !x.2)) (eQv P).hp
def body1Qv (P : Program) : Option (List Leaf) := codeX P (oQv P) LO7 SZ7 fQv 6000 0 (loopAt P fQv 8) (hdQv P).fr ([] ++ (hdQv P).pc) (hdQv P).hp
def sums0Qv (P : Program) : Option (List SumT) := (body0Qv P).bind fun ls => sumsHd P nQv LO7 SZ7 (headsQv P) (gQv P) (ls.map withRows)
def sums1Qv (P : Program) : Option (List SumT) := (body1Qv P).bind fun ls => sumsHd P nQv LO7 SZ7 (headsQv P) (gQv P) (ls.map withRows)
def oQvL (P : Program) : Orac := (oQv P).withLoopF fQv 8 nQv (eQv P).fr (eQv P).hp (mkM nQv (gQv P) (bdQv P))
end Go.Proofs.Ytcbgmkngkkajlaa
end

section
namespace Go.Proofs.Ytcbgmkngkkajlaa
open Go Go.Sy Go.RowKit

def pcQv : PC := [((.lt (.var 0) (.lit 0)), false), ((.lt (.lit 65535) (.var 0)), false), ((.lt (.var 1) (.lit 2)), false), ((.lt (.lit 4096) (.var 1)), false), ((.lt (.add (.add (.var 0) (.mul (.lit 3) (.var 1))) (.lit 2)) (.len (.var 0))), true), ((.lt (.lit 120) (.len (.var 0))), false)]
def sums0V : List SumT := [
  ⟨.ret, 2, ⟨[], [], [], [], [], [], [], []⟩, [((.lt (.var 3) (.len (.var 0))), false), ((.lt (.var 4149515568896103550252416028678955351642268946083712014345610154013554417347499047001293651546389103160031336445652464951572378283949016792918119262476010410940090581932032915406848) (.len (.var 0))), false), ((.lt (.var 1) (.wrap .u32 (.nth (.var 0) (.var 0)))), true), ((.lt (.wrap .u32 (.nth (.var 0) (.var 0))) (.lit 1)), false), ((.lt (.var 0) (.lit 0)), false), ((.lt (.lit 65535) (.var 0)), false), ((.lt (.var 1) (.lit 2)), false), ((.lt (.lit 4096) (.var 1)), false), ((.lt (.add (.add (.var 0) (.mul (.lit 3) (.var 1))) (.lit 2)) (.len (.var 0))), true), ((.lt (.lit 120) (.len (.var 0))), false)]⟩,
  ⟨.bad, 0, ⟨[], [], [], [], [], [], [], []⟩, [((.lt (.add (.add (.add (.var 0) (.lit 2)) (.var 1)) (.wrap .u32 (.nth (.var 0) (.var 0)))) (.len (.var 0))), false), ((.lt (.var 1) (.wrap .u32 (.nth (.var 0) (.var 0)))), false), ((.lt (.wrap .u32 (.nth (.var 0) (.var 0))) (.lit 1)), false), ((.lt (.var 0) (.lit 0)), false), ((.lt (.lit 65535) (.var 0)), false), ((.lt (.var 1) (.lit 2)), false), ((.lt (.lit 4096) (.var 1)), false), ((.lt (.add (.add (.var 0) (.mul (.lit 3) (.var 1))) (.lit 2)) (.len (.var 0))), true), ((.lt (.lit 120) (.len (.var 0))), false)]⟩,
  ⟨.bad, 0, ⟨[], [], [], [], [], [], [], []⟩, [((.lt (.add (.add (.add (.var 0) (.lit 2)) (.mul (.lit 2) (.var 1))) (.wrap .u32 (.nth (.var 0) (.var 0)))) (.len (.var 0))), false), ((.lt (.add (.add (.add (.var 0) (.lit 2)) (.var 1)) (.wrap .u32 (.nth (.var 0) (.var 0)))) (.len (.var 0))), true), ((.lt (.var 1) (.wrap .u32 (.nth (.var 0) (.var 0)))), false), ((.lt (.wrap .u32 (.nth (.var 0) (.var 0))) (.lit 1)), false), ((.lt (.var 0) (.lit 0)), false), ((.lt (.lit 65535) (.var 0)), false), ((.lt (.var 1) (.lit 2)), false), ((.lt (.lit 4096) (.var 1)), false), ((.lt (.add (.add (.var 0) (.mul (.lit 3) (.var 1))) (.lit 2)) (.len (.var 0))), true), ((.lt (.lit 120) (.len (.var 0))), false)]⟩,
  ⟨.normal, 0, ⟨[((nQv + 1), 5260135901548373507240989942500368359232446630729450045012884320815559619156414201251271049272888045607647216327169096985006748583011038694297553743305411501471611294847062214741094013579382868544182088047263744)], [(0, (.nth (.var 0) (.add (.add (.add (.var 0) (.lit 2)) (.mul (.lit 2) (.var 1))) (.wrap .u32 (.nth (.var 0) (.var 0)))))), (1, (.var 5260135901548373507240989942500368359232446630729450045012884320815559619156414201251271049272888045607647216327169096985006748583011038694297553743305411501471611294847062214741094013579382868544182088047263744))], [(1, (.cons (.nth (.var 0) (.add (.add (.add (.var 0) (.lit 2)) (.var 1)) (.wrap .u32 (.nth (.var 0) (.var 0))))) .nil)), (2, (.set (.rep (.add (.var 1) (.lit 1)) (.lit 0)) (.wrap .u32 (.nth (.var 0) (.var 0))) (.lit 1)))], [], [((.lit 1), (.len (.var (nQv + 1))))], [], [], []⟩, [((.lt (.var 3) (.len (.var 0))), false), ((.lt (.var 4149515568896103550252416028678955351642268946083712014345610154013554417347499047001293651546389103160031336445652464951572378283949016792918119262476010410940090581932032915406848) (.len (.var 0))), false), ((.lt (.var 5260135901548373507240989942500368359232446630729450045012884320815559619156414201251271049272888045607647216327169096985006748583011038694297553743305411501471611294847062214741094013579382868544182088047263744) (.lit 1)), false), ((.lt (.add (.add (.add (.var 0) (.lit 2)) (.mul (.lit 2) (.var 1))) (.wrap .u32 (.nth (.var 0) (.var 0)))) (.len (.var 0))), true), ((.lt (.add (.add (.add (.var 0) (.lit 2)) (.var 1)) (.wrap .u32 (.nth (.var 0) (.var 0)))) (.len (.var 0))), true), ((.lt (.var 1) (.wrap .u32 (.nth (.var 0) (.var 0)))), false), ((.lt (.wrap .u32 (.nth (.var 0) (.var 0))) (.lit 1)), false), ((.lt (.var 0) (.lit 0)), false), ((.lt (.lit 65535) (.var 0)), false), ((.lt (.var 1) (.lit 2)), false), ((.lt (.lit 4096) (.var 1)), false), ((.lt (.add (.add (.var 0) (.mul (.lit 3) (.var 1))) (.lit 2)) (.len (.var 0))), true), ((.lt (.lit 120) (.len (.var 0))), false)]⟩,
  ⟨.ret, 2, ⟨[], [], [], [], [], [], [], []⟩, [((.lt (.var 3) (.len (.var 0))), false), ((.lt (.var 4149515568896103550252416028678955351642268946083712014345610154013554417347499047001293651546389103160031336445652464951572378283949016792918119262476010410940090581932032915406848) (.len (.var 0))), false), ((.lt (.wrap .u32 (.nth (.var 0) (.var 0))) (.lit 1)), true), ((.lt (.var 0) (.lit 0)), false), ((.lt (.lit 65535) (.var 0)), false), ((.lt (.var 1) (.lit 2)), false), ((.lt (.lit 4096) (.var 1)), false), ((.lt (.add (.add (.var 0) (.mul (.lit 3) (.var 1))) (.lit 2)) (.len (.var 0))), true), ((.lt (.lit 120) (.len (.var 0))), false)]⟩]
def sums1V : List SumT := [
  ⟨.ret, 2, ⟨[], [], [], [], [], [], [], []⟩, [((.lt (.var 3) (.len (.var 0))), false), ((.lt (.var 4149515568896103550252416028678955351642268946083712014345610154013554417347499047001293651546389103160031336445652464951572378283949016792918119262476010410940090581932032915406848) (.len (.var 0))), false), ((.lt (.var (nQv + 1)) (.len (.var (nQv + 1)))), false), ((.lt (.var 1) (.wrap .u32 (.var (nQv + 0)))), true), ((.lt (.wrap .u32 (.var (nQv + 0))) (.lit 1)), false), ((.lt (.lit 4096) (.len (.var (nQv + 1)))), false), ((.eq (.len (.var (nQv + 2))) (.add (.var 1) (.lit 1))), true), ((.lt (.var 0) (.lit 0)), false), ((.lt (.lit 65535) (.var 0)), false), ((.lt (.var 1) (.lit 2)), false), ((.lt (.lit 4096) (.var 1)), false), ((.lt (.add (.add (.var 0) (.mul (.lit 3) (.var 1))) (.lit 2)) (.len (.var 0))), true), ((.lt (.lit 120) (.len (.var 0))), false)]⟩,
  ⟨.ret, 2, ⟨[], [], [], [], [], [], [], []⟩, [((.lt (.var 3) (.len (.var 0))), false), ((.lt (.var 4149515568896103550252416028678955351642268946083712014345610154013554417347499047001293651546389103160031336445652464951572378283949016792918119262476010410940090581932032915406848) (.len (.var 0))), false), ((.lt (.var (nQv + 1)) (.len (.var (nQv + 1)))), false), ((.lt (.nth (.var (nQv + 2)) (.wrap .u32 (.var (nQv + 0)))) (.lit 1)), false), ((.lt (.var 1) (.wrap .u32 (.var (nQv + 0)))), false), ((.lt (.wrap .u32 (.var (nQv + 0))) (.lit 1)), false), ((.lt (.lit 4096) (.len (.var (nQv + 1)))), false), ((.eq (.len (.var (nQv + 2))) (.add (.var 1) (.lit 1))), true), ((.lt (.var 0) (.lit 0)), false), ((.lt (.lit 65535) (.var 0)), false), ((.lt (.var 1) (.lit 2)), false), ((.lt (.lit 4096) (.var 1)), false), ((.lt (.add (.add (.var 0) (.mul (.lit 3) (.var 1))) (.lit 2)) (.len (.var 0))), true), ((.lt (.lit 120) (.len (.var 0))), false)]⟩,
  ⟨.bad, 0, ⟨[], [], [], [], [], [], [], []⟩, [((.lt (.add (.add (.add (.var 0) (.lit 2)) (.var 1)) (.wrap .u32 (.var (nQv + 0)))) (.len (.var 0))), false), ((.lt (.nth (.var (nQv + 2)) (.wrap .u32 (.var (nQv + 0)))) (.lit 1)), true), ((.lt (.var 1) (.wrap .u32 (.var (nQv + 0)))), false), ((.lt (.wrap .u32 (.var (nQv + 0))) (.lit 1)), false), ((.lt (.lit 4096) (.len (.var (nQv + 1)))), false), ((.eq (.len (.var (nQv + 2))) (.add (.var 1) (.lit 1))), true), ((.lt (.var 0) (.lit 0)), false), ((.lt (.lit 65535) (.var 0)), false), ((.lt (.var 1) (.lit 2)), false), ((.lt (.lit 4096) (.var 1)), false), ((.lt (.add (.add (.var 0) (.mul (.lit 3) (.var 1))) (.lit 2)) (.len (.var 0))), true), ((.lt (.lit 120) (.len (.var 0))), false)]⟩,
  ⟨.bad, 0, ⟨[], [], [], [], [], [], [], []⟩, [((.lt (.add (.add (.add (.var 0) (.lit 2)) (.mul (.lit 2) (.var 1))) (.wrap .u32 (.var (nQv + 0)))) (.len (.var 0))), false), ((.lt (.add (.add (.add (.var 0) (.lit 2)) (.var 1)) (.wrap .u32 (.var (nQv + 0)))) (.len (.var 0))), true), ((.lt (.nth (.var (nQv + 2)) (.wrap .u32 (.var (nQv + 0)))) (.lit 1)), true), ((.lt (.var 1) (.wrap .u32 (.var (nQv + 0)))), false), ((.lt (.wrap .u32 (.var (nQv + 0))) (.lit 1)), false), ((.lt (.lit 4096) (.len (.var (nQv + 1)))), false), ((.eq (.len (.var (nQv + 2))) (.add (.var 1) (.lit 1))), true), ((.lt (.var 0) (.lit 0)), false), ((.lt (.lit 65535) (.var 0)), false), ((.lt (.var 1) (.lit 2)), false), ((.lt (.lit 4096) (.var 1)), false), ((.lt (.add (.add (.var 0) (.mul (.lit 3) (.var 1))) (.lit 2)) (.len (.var 0))), true), ((.lt (.lit 120) (.len (.var 0))), false)]⟩,
  ⟨.normal, 0, ⟨[((nQv + 1), 5260135901548373507240989942500368359232446630729450045012884320815559619156414201251271049272888045607647216327169096985006748583011038694297553743305411501471611294847062214741094013579382868544182088047263744)], [(0, (.nth (.var 0) (.add (.add (.add (.var 0) (.lit 2)) (.mul (.lit 2) (.var 1))) (.wrap .u32 (.var (nQv + 0)))))), (1, (.var 5260135901548373507240989942500368359232446630729450045012884320815559619156414201251271049272888045607647216327169096985006748583011038694297553743305411501471611294847062214741094013579382868544182088047263744))], [(1, (.app (.var (nQv + 1)) (.cons (.nth (.var 0) (.add (.add (.add (.var 0) (.lit 2)) (.var 1)) (.wrap .u32 (.var (nQv + 0))))) .nil))), (2, (.set (.var (nQv + 2)) (.wrap .u32 (.var (nQv + 0))) (.lit 1)))], [], [((.add (.len (.var (nQv + 1))) (.lit 1)), (.len (.var (nQv + 1))))], [], [], []⟩, [((.lt (.var 3) (.len (.var 0))), false), ((.lt (.var 4149515568896103550252416028678955351642268946083712014345610154013554417347499047001293651546389103160031336445652464951572378283949016792918119262476010410940090581932032915406848) (.len (.var 0))), false), ((.lt (.var 5260135901548373507240989942500368359232446630729450045012884320815559619156414201251271049272888045607647216327169096985006748583011038694297553743305411501471611294847062214741094013579382868544182088047263744) (.add (.len (.var (nQv + 1))) (.lit 1))), false), ((.lt (.add (.add (.add (.var 0) (.lit 2)) (.mul (.lit 2) (.var 1))) (.wrap .u32 (.var (nQv + 0)))) (.len (.var 0))), true), ((.lt (.add (.add (.add (.var 0) (.lit 2)) (.var 1)) (.wrap .u32 (.var (nQv + 0)))) (.len (.var 0))), true), ((.lt (.nth (.var (nQv + 2)) (.wrap .u32 (.var (nQv + 0)))) (.lit 1)), true), ((.lt (.var 1) (.wrap .u32 (.var (nQv + 0)))), false), ((.lt (.wrap .u32 (.var (nQv + 0))) (.lit 1)), false), ((.lt (.lit 4096) (.len (.var (nQv + 1)))), false), ((.eq (.len (.var (nQv + 2))) (.add (.var 1) (.lit 1))), true), ((.lt (.var 0) (.lit 0)), false), ((.lt (.lit 65535) (.var 0)), false), ((.lt (.var 1) (.lit 2)), false), ((.lt (.lit 4096) (.var 1)), false), ((.lt (.add (.add (.var 0) (.mul (.lit 3) (.var 1))) (.lit 2)) (.len (.var 0))), true), ((.lt (.lit 120) (.len (.var 0))), false)]⟩,
  ⟨.ret, 0, ⟨[((nQv + 1), (nQv + 1))], [(1, (.var (nQv + 1)))], [], [], [((.sub (.var (nQv + 1)) (.lit 1)), (.sub (.var (nQv + 1)) (.lit 1))), ((.add (.len (.var (nQv + 1))) (.lit (-1))), (.sub (.len (.gl 0 (.app 51 (.var 0) (.var 0) (.var 0) (.var 1) (.lit 0) (.lit 0) (.var 0)) (.lit 0) (.lit 0))) (.lit 1)))], [((.var (nQv + 1)), (.gl 0 (.app 51 (.var 0) (.var 0) (.var 0) (.var 1) (.lit 0) (.lit 0) (.var 0)) (.lit 0) (.lit 0)))], [], []⟩, [((.lt (.var 3) (.len (.var 0))), false), ((.lt (.var 4149515568896103550252416028678955351642268946083712014345610154013554417347499047001293651546389103160031336445652464951572378283949016792918119262476010410940090581932032915406848) (.len (.var 0))), false), ((.lt (.var (nQv + 1)) (.len (.var (nQv + 1)))), false), ((.lt (.var (nQv + 1)) (.lit 2)), false), ((.lt (.len (.var (nQv + 1))) (.lit 1)), false), ((.lt (.wrap .u32 (.var (nQv + 0))) (.lit 1)), true), ((.lt (.lit 4096) (.len (.var (nQv + 1)))), false), ((.eq (.len (.var (nQv + 2))) (.add (.var 1) (.lit 1))), true), ((.lt (.var 0) (.lit 0)), false), ((.lt (.lit 65535) (.var 0)), false), ((.lt (.var 1) (.lit 2)), false), ((.lt (.lit 4096) (.var 1)), false), ((.lt (.add (.add (.var 0) (.mul (.lit 3) (.var 1))) (.lit 2)) (.len (.var 0))), true), ((.lt (.lit 120) (.len (.var 0))), false)]⟩,
  ⟨.ret, 1, ⟨[((nQv + 1), (nQv + 1))], [(1, (.var (nQv + 1)))], [], [], [((.sub (.var (nQv + 1)) (.lit 1)), (.sub (.var (nQv + 1)) (.lit 1))), ((.add (.len (.var (nQv + 1))) (.lit (-1))), (.sub (.len (.gl 0 (.app 51 (.var 0) (.var 0) (.var 0) (.var 1) (.lit 0) (.lit 0) (.var 0)) (.lit 0) (.lit 0))) (.lit 1)))], [((.var (nQv + 1)), (.gl 0 (.app 51 (.var 0) (.var 0) (.var 0) (.var 1) (.lit 0) (.lit 0) (.var 0)) (.lit 0) (.lit 0)))], [], []⟩, [((.lt (.var 3) (.len (.var 0))), false), ((.lt (.var 4149515568896103550252416028678955351642268946083712014345610154013554417347499047001293651546389103160031336445652464951572378283949016792918119262476010410940090581932032915406848) (.len (.var 0))), false), ((.lt (.var (nQv + 1)) (.len (.var (nQv + 1)))), false), ((.lt (.var (nQv + 1)) (.lit 2)), true), ((.lt (.len (.var (nQv + 1))) (.lit 1)), false), ((.lt (.wrap .u32 (.var (nQv + 0))) (.lit 1)), true), ((.lt (.lit 4096) (.len (.var (nQv + 1)))), false), ((.eq (.len (.var (nQv + 2))) (.add (.var 1) (.lit 1))), true), ((.lt (.var 0) (.lit 0)), false), ((.lt (.lit 65535) (.var 0)), false), ((.lt (.var 1) (.lit 2)), false), ((.lt (.lit 4096) (.var 1)), false), ((.lt (.add (.add (.var 0) (.mul (.lit 3) (.var 1))) (.lit 2)) (.len (.var 0))), true), ((.lt (.lit 120) (.len (.var 0))), false)]⟩,
  ⟨.ret, 2, ⟨[], [], [], [], [], [], [], []⟩, [((.lt (.var 3) (.len (.var 0))), false), ((.lt (.var 4149515568896103550252416028678955351642268946083712014345610154013554417347499047001293651546389103160031336445652464951572378283949016792918119262476010410940090581932032915406848) (.len (.var 0))), false), ((.lt (.var (nQv + 1)) (.len (.var (nQv + 1)))), false), ((.lt (.len (.var (nQv + 1))) (.lit 1)), true), ((.lt (.wrap .u32 (.var (nQv + 0))) (.lit 1)), true), ((.lt (.lit 4096) (.len (.var (nQv + 1)))), false), ((.eq (.len (.var (nQv + 2))) (.add (.var 1) (.lit 1))), true), ((.lt (.var 0) (.lit 0)), false), ((.lt (.lit 65535) (.var 0)), false), ((.lt (.var 1) (.lit 2)), false), ((.lt (.lit 4096) (.var 1)), false), ((.lt (.add (.add (.var 0) (.mul (.lit 3) (.var 1))) (.lit 2)) (.len (.var 0))), true), ((.lt (.lit 120) (.len (.var 0))), false)]⟩]
def ouQv : List CLeaf := [
  ⟨false, (.tup [(.sl (nQv + 1) (.lit 1) (.sub (.len (.gl 0 (.app 51 (.var 0) (.var 0) (.var 0) (.var 1) (.lit 0) (.lit 0) (.var 0)) (.lit 0) (.lit 0))) (.lit 1)) (.sub (.var (nQv + 1)) (.lit 1))), (.int .i64 (.lit 0))]), [((.gb 0 (.app 51 (.var 0) (.var 0) (.var 0) (.var 1) (.lit 0) (.lit 0) (.var 0)) (.lit 0) (.lit 0)), true), ((.lt (.lit 0) (.len (.gl 0 (.app 51 (.var 0) (.var 0) (.var 0) (.var 1) (.lit 0) (.lit 0) (.var 0)) (.lit 0) (.lit 0)))), true), ((.lt (.var 0) (.lit 0)), false), ((.lt (.lit 65535) (.var 0)), false), ((.lt (.var 1) (.lit 2)), false), ((.lt (.lit 4096) (.var 1)), false), ((.lt (.add (.add (.var 0) (.mul (.lit 3) (.var 1))) (.lit 2)) (.len (.var 0))), true), ((.lt (.lit 120) (.len (.var 0))), false)], [(0, (.cells [(.sl 1 (.lit 0) (.len (.var 0)) (.var 3))] 75 true)), (1, (.row .u64 (.var 0) (.var 3) 46)), ((nQv + 1), (.row .u64 (.gl 0 (.app 51 (.var 0) (.var 0) (.var 0) (.var 1) (.lit 0) (.lit 0) (.var 0)) (.lit 0) (.lit 0)) (.var (nQv + 1)) 46))]⟩,
  ⟨false, (.tup [(.sl (nQv + 1) (.lit 0) (.sub (.len (.gl 0 (.app 51 (.var 0) (.var 0) (.var 0) (.var 1) (.lit 0) (.lit 0) (.var 0)) (.lit 0) (.lit 0))) (.lit 1)) (.sub (.var (nQv + 1)) (.lit 1))), (.int .i64 (.lit 0))]), [((.gb 0 (.app 51 (.var 0) (.var 0) (.var 0) (.var 1) (.lit 0) (.lit 0) (.var 0)) (.lit 0) (.lit 0)), true), ((.lt (.lit 0) (.len (.gl 0 (.app 51 (.var 0) (.var 0) (.var 0) (.var 1) (.lit 0) (.lit 0) (.var 0)) (.lit 0) (.lit 0)))), true), ((.lt (.len (.gl 0 (.app 51 (.var 0) (.var 0) (.var 0) (.var 1) (.lit 0) (.lit 0) (.var 0)) (.lit 0) (.lit 0))) (.lit 2)), true), ((.lt (.var 0) (.lit 0)), false), ((.lt (.lit 65535) (.var 0)), false), ((.lt (.var 1) (.lit 2)), false), ((.lt (.lit 4096) (.var 1)), false), ((.lt (.add (.add (.var 0) (.mul (.lit 3) (.var 1))) (.lit 2)) (.len (.var 0))), true), ((.lt (.lit 120) (.len (.var 0))), false)], [(0, (.cells [(.sl 1 (.lit 0) (.len (.var 0)) (.var 3))] 75 true)), (1, (.row .u64 (.var 0) (.var 3) 46)), ((nQv + 1), (.row .u64 (.gl 0 (.app 51 (.var 0) (.var 0) (.var 0) (.var 1) (.lit 0) (.lit 0) (.var 0)) (.lit 0) (.lit 0)) (.var (nQv + 1)) 46))]⟩,
  ⟨false, (.tup [.nilSl, (.int .i64 (.lit 9))]), [((.gb 0 (.app 51 (.var 0) (.var 0) (.var 0) (.var 1) (.lit 0) (.lit 0) (.var 0)) (.lit 0) (.lit 0)), false), ((.lt (.var 0) (.lit 0)), false), ((.lt (.lit 65535) (.var 0)), false), ((.lt (.var 1) (.lit 2)), false), ((.lt (.lit 4096) (.var 1)), false), ((.lt (.add (.add (.var 0) (.mul (.lit 3) (.var 1))) (.lit 2)) (.len (.var 0))), true), ((.lt (.lit 120) (.len (.var 0))), false)], [(0, (.cells [(.sl 1 (.lit 0) (.len (.var 0)) (.var 3))] 75 true)), (1, (.row .u64 (.var 0) (.var 3) 46))]⟩]
theorem oQv_ok : OOK Try.prog (oQv Try.prog) inM := pruned_ok pr (opSliceU_ok (opBool_ok (opLoadS_ok (opAppendW_ok (opSliceT_ok noOrac_ok)))))
theorem pcQv_eq : (eQv Try.prog).pc = pcQv := by kernel_rfl
theorem avQv : pav nQv (nQv + 64) pcQv = true := by kernel_rfl
theorem b0Qv : sums0Qv Try.prog = some sums0V := by kernel_rfl
theorem b1Qv : sums1Qv Try.prog = some sums1V := by kernel_rfl
theorem oneQv : (loopsAt Try.prog fQv 8).length = 1 := by kernel_rfl
theorem runQv : runX Try.prog (oQvL Try.prog) fQv tQv.args tQv.pc tQv.hp = some ouQv := by kernel_rfl
theorem hdQv_pc : (hdQv Try.prog).pc = [(.lt (.lit 4096) (.len (.var (nQv + 1))), false), (.eq (.len (.var (nQv + 2))) (.add (.var 1) (.lit 1)), true)] ++ pcQv := by kernel_rfl
structure FactsQv (ν : Env Gh) : Prop where
  at0 : 0 ≤ ν.i 0
  at1 : ν.i 0 ≤ 65535
  n1 : 2 ≤ ν.i 1
  n2 : ν.i 1 ≤ 40
  room : ν.i 0 + 3 * ν.i 1 + 2 < (ν.l 0).length
theorem factsQv {ν : Env Gh} (h : pcDen ν pcQv) : FactsQv ν := by
  simp only [pcQv, pcDen_cons_iff, pcDen_nil_iff, SB.den, decide_eq_true_eq, decide_eq_false_iff_not] at h
  simp only [SI.den, SL.den] at h
  exact ⟨by omega, by omega, by omega, by omega, by omega⟩
theorem x51 {ν : Env Gh} (hI : ν.I = inM) (a b c d : SI) (l : SL) : (SG.app 51 (.var 0) (.var 0) a b c d l).den ν = ⟨0, 0, (vis (l.den ν) (a.den ν) (b.den ν)).isSome, visT (l.den ν) (a.den ν) (b.den ν), [], [], 0⟩ := by simp [SG.den, hI, inM, xga]
attribute [local irreducible] nmAt
theorem oQvL_ok : OOK Try.prog (oQvL Try.prog) inM := by
  refine withLoopF_ok oQv_ok ?_
  have hb : ∀ {ν : Env Gh}, (∀ x ∈ bdQv Try.prog, x.1.den ν ≠ x.2) → pcDen ν pcQv := fun h => by unfold bdQv at h; rw [pcQv_eq] at h; exact bads_of h
  have hp : ∀ {ν : Env Gh} {x : Vals Gh}, pcDen ν pcQv → ((x.l 1).length : Int) ≤ 4096 → ((x.l 2).length : Int) = ν.i 1 + 1 → pcDen (ν.at nQv x) (hdQv Try.prog).pc := by
    intro ν x h h2 h3
    have rf : RF nQv ν x (ν.at nQv x) := RF.self rfl
    have hold : pcDen (ν.at nQv x) pcQv := pcDen_agree (at_agree (ρ := fun _ => 0) (ρ' := fun _ => 0) (fun _ _ => rfl)) avQv h
    rw [hdQv_pc]
    refine pcDen_append (pcDen_cons (lt_of ?_) (pcDen_one ?_)) hold
    · simp only [SI.den, SL.den, rf.l 1 (by decide), Bool.false_eq_true, iff_false]; omega
    · simp only [SB.den, beq_iff_eq]
      simp only [SI.den, SL.den, rf.l 2 (by decide), rf.io 1 (by decide)]
      omega
  have hbad : ∀ {ν : Env Gh} {y : Vals Gh}, ν.I = inM → vis (ν.l 0) (ν.i 0) (ν.i 1) = none → pcDen (ν.at nQv y) [(visB, false)] := by
    intro ν y hI hv
    have rf : RF nQv ν y (ν.at nQv y) := RF.self rfl
    refine pcDen_one ?_
    simp only [visB, visG, SB.den, x51 (rf.I.trans hI), rf.I.trans hI, inM_gb, SI.den, SL.den, rf.io 0 (by decide), rf.io 1 (by decide), rf.lo 0 (by decide), hv]
    rfl
  refine loopF_ok pr oQv_ok (rfl : nQv = nmAt 8) (by decide +kernel) oneQv (heads := headsQv Try.prog) (tg := gQv Try.prog) (sums := [[([], sums1V)]]) (sums0 := sums0V) (n := 6000) (it := 0) (ghL []) rfl ?_ b0Qv
    (fun _ ν x => ∃ s, VI (ν.l 0) (ν.i 0) (ν.i 1) (x.i 0) s ∧ s ≠ [] ∧ x.l 1 = outs (ν.l 0) (ν.i 0) (ν.i 1) s ∧ Marks (x.l 2) (ν.i 1) s)
    (fun _ ν x => (ν.i 1 + 1 - (x.l 1).length).toNat) (fun ν => (ν.i 1 + 1).toNat) ?_ ?_ ?_ oQv_ok
  · intro i h ss hh hs c hc
    match i, hh, hs with
    | 0, hh, hs =>
      cases hs
      simp only [List.mem_singleton] at hc
      subst hc
      have e : h = hdQv Try.prog := by unfold hdQv hdAt; rw [hh]; rfl
      subst e
      exact b1Qv
    | n + 1, hh, hs => cases hs
  · intro t ht ν ν2 hI h rf hpc
    have hp' := hb h
    obtain ⟨f0, f1, f2, f3, f4⟩ := factsQv hp'
    have qa : ν2.i 0 = ν.i 0 := rf.io 0 (by decide)
    have qn : ν2.i 1 = ν.i 1 := rf.io 1 (by decide)
    have ql : ν2.l 0 = ν.l 0 := rf.lo 0 (by decide)
    have hI2 : ν2.I = inM := rf.I.trans hI
    have V := VI.nil (ν.l 0) (ν.i 0) (ν.i 1)
    simp only [sums0V, List.mem_cons, List.not_mem_nil, or_false] at ht
    rcases ht with rfl | rfl | rfl | rfl | rfl
    all_goals
      simp only [pcDen_cons_iff, pcDen_nil_iff, SB.den, decide_eq_true_eq, decide_eq_false_iff_not, beq_iff_eq] at hpc
      simp only [SI.den, SL.den, qa, qn, ql, IntKind.wrap_u32] at hpc
    · refine ⟨fun g hg => ?_, by constructor <;> simp⟩
      cases hg
      exact hbad hI (V.bad (by omega) (by simp) (by omega))
    · show False
      omega
    · show False
      omega
    · intro g hg
      dsimp only at hg ⊢
      generalize hy : Mt.vals _ (ghL []) ν2 = y
      have hk : 1 ≤ (ν.l 0).getD (ν.i 0).toNat 0 % 4294967296 ∧ (ν.l 0).getD (ν.i 0).toNat 0 % 4294967296 ≤ ν.i 1 := by omega
      have V2 := V.next (by omega) hk.1 hk.2 (by simp)
      have y0 : y.i 0 = (ν.l 0).getD (ν.i 0 + 2 + 2 * ν.i 1 + (ν.l 0).getD (ν.i 0).toNat 0 % 4294967296).toNat 0 := by
        rw [← hy]
        simp only [Mt.vals, lkp_cons, lkp_nil, Nat.reduceEqDiff, reduceIte, SI.den, SL.den, qa, qn, ql, IntKind.wrap_u32]
      have y1 : y.l 1 = outs (ν.l 0) (ν.i 0) (ν.i 1) ([] ++ [(ν.l 0).getD (ν.i 0).toNat 0 % 4294967296]) := by
        rw [← hy, outs_add]
        simp only [Mt.vals, lkp_cons, lkp_nil, Nat.reduceEqDiff, reduceIte, SI.den, SL.den, qa, qn, ql, IntKind.wrap_u32]
        rfl
      have y2 : y.l 2 = (List.replicate (ν.i 1 + 1).toNat 0).set ((ν.l 0).getD (ν.i 0).toNat 0 % 4294967296).toNat 1 := by
        rw [← hy]
        simp only [Mt.vals, lkp_cons, lkp_nil, Nat.reduceEqDiff, reduceIte, SI.den, SL.den, qa, qn, ql, IntKind.wrap_u32]
      have e : g = hdQv Try.prog := by unfold hdQv hdAt; rw [hg]; rfl
      subst e
      have M2 := (Marks.nil (N := ν.i 1) (by omega)).set (show 0 ≤ (ν.l 0).getD (ν.i 0).toNat 0 % 4294967296 by omega) hk.2
      have l1 : ((y.l 1).length : Int) = 1 := by rw [y1, outs_length]; rfl
      refine ⟨⟨_, by rw [y0]; exact V2, by simp, y1, by rw [y2]; exact M2⟩, hp hp' (by omega) (by rw [y2, List.length_set, List.length_replicate]; omega), by omega, ?_⟩
      · constructor <;> simp [SI.den, SL.den, at_l, y1, outs]
    · refine ⟨fun g hg => ?_, by constructor <;> simp⟩
      cases hg
      exact hbad hI (V.bad (by omega) (by simp) (by omega))
  · intro i h ss hh hs ν x _ _ _ _
    match i, hs with
    | 0, hs => cases hs; exact ⟨_, List.mem_singleton.2 rfl, pcDen_nil _⟩
    | n + 1, hs => cases hs
  · intro i h ss hh hs c hc t ht ν x ν2 hI hbd hJ hpch _ rf hpc
    have hp' := hb hbd
    obtain ⟨f0, f1, f2, f3, f4⟩ := factsQv hp'
    obtain ⟨s, V, sn, j1, M⟩ := hJ
    have qa : ν2.i 0 = ν.i 0 := rf.io 0 (by decide)
    have qn : ν2.i 1 = ν.i 1 := rf.io 1 (by decide)
    have ql : ν2.l 0 = ν.l 0 := rf.lo 0 (by decide)
    have hI2 : ν2.I = inM := rf.I.trans hI
    have q0 : ν2.i (nQv + 0) = x.i 0 := rf.i 0 (by decide)
    have q1i : ν2.i (nQv + 1) = x.i 1 := rf.i 1 (by decide)
    have q1 : ν2.l (nQv + 1) = x.l 1 := rf.l 1 (by decide)
    have q2 : ν2.l (nQv + 2) = x.l 2 := rf.l 2 (by decide)
    have hl := V.len (by omega)
    have hl1 : (x.l 1).length = s.length := by rw [j1, outs_length]
    have hs0 : 1 ≤ (s.length : Int) := by cases s with | nil => exact (sn rfl).elim | cons a r => simp only [List.length_cons]; omega
    have hM := M.get (x.i 0 % 4294967296) (by omega)
    match i, hh, hs with
    | n + 1, hh, hs => cases hs
    | 0, hh, hs =>
      cases hs
      simp only [List.mem_singleton] at hc
      subst hc
      have fin : ∀ {y : Vals Gh}, vis (ν.l 0) (ν.i 0) (ν.i 1) = some s → ((visB.den (ν.at nQv y)) = true) ∧ visL.den (ν.at nQv y) = x.l 1 := by
        intro y hv
        have rf3 : RF nQv ν y (ν.at nQv y) := RF.self rfl
        constructor
        · simp only [visB, visG, SB.den, x51 (rf3.I.trans hI), rf3.I.trans hI, inM_gb, SI.den, SL.den, rf3.io 0 (by decide), rf3.io 1 (by decide), rf3.lo 0 (by decide), hv]
          rfl
        · simp only [visL, visG, x51 (rf3.I.trans hI), rf3.I.trans hI, inM_gl, SI.den, SL.den, rf3.io 0 (by decide), rf3.io 1 (by decide), rf3.lo 0 (by decide), visT_some hv, j1]
      simp only [sums1V, List.mem_cons, List.not_mem_nil, or_false] at ht
      rcases ht with rfl | rfl | rfl | rfl | rfl | rfl | rfl | rfl
      all_goals
        simp only [pcDen_cons_iff, pcDen_nil_iff, SB.den, decide_eq_true_eq, decide_eq_false_iff_not, beq_iff_eq] at hpc
        simp only [SI.den, SL.den, q0, q1, q1i, q2, qa, qn, ql, IntKind.wrap_u32] at hpc
      · refine ⟨fun g hg => ?_, by constructor <;> simp⟩
        cases hg
        exact hbad hI (V.bad (by omega) (by omega) (by omega))
      · refine ⟨fun g hg => ?_, by constructor <;> simp⟩
        cases hg
        refine hbad hI (V.bad (by omega) (by omega) (.inr (.inr ?_)))
        by_cases hm : x.i 0 % 4294967296 ∈ s
        · exact hm
        · rw [if_neg hm] at hM; omega
      · show False
        omega
      · show False
        omega
      · intro g hg
        dsimp only at hg ⊢
        have hk : 1 ≤ x.i 0 % 4294967296 ∧ x.i 0 % 4294967296 ≤ ν.i 1 := by omega
        have hn : x.i 0 % 4294967296 ∉ s := fun hm => by rw [if_pos hm] at hM; omega
        have V2 := V.next (by omega) hk.1 hk.2 hn
        have hl2 := V2.len (by omega)
        rw [List.length_append, List.length_singleton] at hl2
        generalize hy : Mt.vals _ (ghL []) ν2 = y
        have y0 : y.i 0 = (ν.l 0).getD (ν.i 0 + 2 + 2 * ν.i 1 + x.i 0 % 4294967296).toNat 0 := by
          rw [← hy]
          simp only [Mt.vals, lkp_cons, lkp_nil, Nat.reduceEqDiff, reduceIte, SI.den, SL.den, q0, qa, qn, ql, IntKind.wrap_u32]
        have y1' : y.l 1 = x.l 1 ++ [(ν.l 0).getD (ν.i 0 + 2 + ν.i 1 + x.i 0 % 4294967296).toNat 0] := by
          rw [← hy]
          simp only [Mt.vals, lkp_cons, lkp_nil, Nat.reduceEqDiff, reduceIte, SI.den, SL.den, q0, q1, qa, qn, ql, IntKind.wrap_u32]
        have y1 : y.l 1 = outs (ν.l 0) (ν.i 0) (ν.i 1) (s ++ [x.i 0 % 4294967296]) := by rw [y1', outs_add, j1]
        have y2 : y.l 2 = (x.l 2).set (x.i 0 % 4294967296).toNat 1 := by
          rw [← hy]
          simp only [Mt.vals, lkp_cons, lkp_nil, Nat.reduceEqDiff, reduceIte, SI.den, SL.den, q0, q2, qa, qn, ql, IntKind.wrap_u32]
        have e : g = hdQv Try.prog := by unfold hdQv hdAt; rw [hg]; rfl
        subst e
        have M2 := M.set (show 0 ≤ x.i 0 % 4294967296 by omega) hk.2
        have l1 : ((y.l 1).length : Int) = s.length + 1 := by rw [y1, outs_length, List.length_append]; rfl
        refine ⟨⟨_, by rw [y0]; exact V2, by simp, y1, by rw [y2]; exact M2⟩, hp hp' (by omega) (by rw [y2]; exact M2.len), by omega, ?_⟩
        · constructor <;> simp [SI.den, SL.den, at_l, y1', q1]
      · have hv := V.fine (by omega) (by omega) sn
        refine ⟨fun g hg => ?_, ?_⟩
        · cases hg
          refine pcDen_cons (fin hv).1 (pcDen_one (lt_of ?_))
          simp only [SI.den, (fin hv).2, iff_true]; omega
        · constructor
          all_goals
            intro z hz
            simp only [List.mem_cons, List.not_mem_nil, or_false] at hz
          · rcases hz with rfl | rfl
            · simp only [SI.den, (RF.self (nm := nQv) (ν := ν) rfl).i 1 (by decide), Mt.vals, lkp_cons, lkp_nil, Nat.reduceEqDiff, reduceIte]
            · show ((ν2.l (nQv + 1)).length : Int) + -1 = ((visL.den (ν.at nQv _)).length : Int) - 1
              rw [(fin hv).2, q1]
              rfl
          · subst hz
            exact q1.trans (fin hv).2.symm
      · have hv := V.fine (by omega) (by omega) sn
        refine ⟨fun g hg => ?_, ?_⟩
        · cases hg
          refine pcDen_cons (fin hv).1 (pcDen_cons (lt_of ?_) (pcDen_one (lt_of ?_)))
          · simp only [SI.den, (fin hv).2, iff_true]; omega
          · simp only [SI.den, (fin hv).2, iff_true]; omega
        · constructor
          all_goals
            intro z hz
            simp only [List.mem_cons, List.not_mem_nil, or_false] at hz
          · rcases hz with rfl | rfl
            · simp only [SI.den, (RF.self (nm := nQv) (ν := ν) rfl).i 1 (by decide), Mt.vals, lkp_cons, lkp_nil, Nat.reduceEqDiff, reduceIte]
            · show ((ν2.l (nQv + 1)).length : Int) + -1 = ((visL.den (ν.at nQv _)).length : Int) - 1
              rw [(fin hv).2, q1]
              rfl
          · subst hz
            exact q1.trans (fin hv).2.symm
      · exfalso
        omega
theorem quV_ok {O : Orac} (oo : OOK Try.prog O inM) : OOK Try.prog (O.withCallF fQv (sumK Try.prog tQv ouQv)) inM := withCallF_ok oo (sum_ok pr oQvL_ok runQv oo)
end Go.Proofs.Ytcbgmkngkkajlaa
end
