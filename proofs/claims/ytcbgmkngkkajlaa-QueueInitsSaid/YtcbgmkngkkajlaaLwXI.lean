/- arena.Arena.Init on any memory: its state, its loop's heads (a first free node, or none). -/
import Derived.Test.YtcbgmkngkkajlaaLwXA
import Derived.Test.YtcbgmkngkkajlaaSyL
set_option linter.unusedVariables false
set_option linter.unusedSimpArgs false

section
namespace Go.Proofs.Ytcbgmkngkkajlaa
open Go Go.Sy Go.RowKit

def fIi : Nat := 33
def tIi : Tmpl := ⟨[.agg [.int .i64 (.var 0), .int .i64 (.var 1)], .ptr 0 (.lit 0), .int .i64 (.var 2)], [], [(0, .cells [.sl 1 (.lit 0) (.len (.var 0)) (.var 3)] 75 true), (1, .row .u64 (.var 0) (.var 3) 46)]⟩
def nIi : Nat := nmAt 13
def oIi (P : Program) : Orac := (oSm P).pruned P
def eIi (P : Program) (k : Nat) : Leaf := capN k (capAll P (oIi P) fIi 13 tIi.args tIi.pc tIi.hp)
def linkI (i : SI) : SL := .gl 0 (.app 22 (.var 0) (.var 0) (.var 0) (.var 1) (.var 2) i (.var 0)) (.lit 0) (.lit 0)
def linkIn : SL := linkI (.add (.var 1) (.lit 1))
def hIi (P : Program) (k : Nat) : Leaf := let L := eIi P k
  { L with fr := (keepFr [1, 2, 3] L.fr).set 9 (.int .i64 (.var nIi)), hp := setList 1 (.var (nIi + 1)) L.hp }
def pIi (P : Program) (k : Nat) : PC := [(.lt (.var nIi) (.lit 1), false), (.lt (.lit 4097) (.var nIi), false), (.lt (.add (.var 1) (.lit 1)) (.var nIi), false), (.eq (.len (.var (nIi + 1))) (.len (.var 0)), true)] ++ (eIi P k).pc
def gIi (P : Program) (k : Nat) : List Tgt := [⟨.exit 0, (hIi P k).fr.map fun _ => .dead, setList 1 linkIn (eIi P k).hp, []⟩]
def bodyIi (P : Program) (k : Nat) : Option (List Leaf) := codeX P (oIi P) LO7 SZ7 fIi 6000 0 (loopAt P fIi 13) (hIi P k).fr (pIi P k) (hIi P k).hp
def sIi (P : Program) (k : Nat) : Option (List SumT) := (bodyIi P k).bind (sumsT P nIi LO7 SZ7 (⟨.normal, (hIi P k).fr, (hIi P k).hp, pIi P k⟩ :: gIi P k))
def mIi (P : Program) (k : Nat) : PC → List Leaf := mkM nIi (gIi P k) ((eIi P k).pc.map fun x => (x.1, !x.2))
def oIiL (P : Program) : Orac := ((oIi P).withLoopF fIi 13 nIi (eIi P 0).fr (eIi P 0).hp (mIi P 0)).withLoopF fIi 13 nIi (eIi P 1).fr (eIi P 1).hp (mIi P 1)
end Go.Proofs.Ytcbgmkngkkajlaa
end

section
namespace Go.Proofs.Ytcbgmkngkkajlaa
open Go Go.Sy Go.RowKit

def pcIi0 : PC := [((.lt (.var 1) (.var 2)), false), ((.lt (.add (.var 1) (.lit 1)) (.var 2)), false), ((.lt (.var 2) (.lit 1)), false), ((.lt (.add (.var 0) (.var 1)) (.len (.var 0))), true), ((.lt (.var 0) (.sub (.lit 65536) (.var 1))), true), ((.lt (.var 0) (.lit 0)), false), ((.lt (.var 1) (.lit 4097)), true), ((.lt (.var 1) (.lit 1)), false)]
def pcIi1 : PC := [((.lt (.var 1) (.var 2)), true), ((.lt (.add (.var 1) (.lit 1)) (.var 2)), false), ((.lt (.var 2) (.lit 1)), false), ((.lt (.add (.var 0) (.var 1)) (.len (.var 0))), true), ((.lt (.var 0) (.sub (.lit 65536) (.var 1))), true), ((.lt (.var 0) (.lit 0)), false), ((.lt (.var 1) (.lit 4097)), true), ((.lt (.var 1) (.lit 1)), false)]
def startIi0 : Mt := ⟨[], [(0, (.lit 1))], [(1, (.set (.var 0) (.var 0) (.wrap .u64 (.var 2))))], [], [], [], [], []⟩
def startIi1 : Mt := ⟨[], [(0, (.lit 1))], [(1, (.set (.var 0) (.var 0) (.lit 0)))], [], [], [], [], []⟩
def sumsIi0 : List SumT := [
  ⟨.normal, 0, ⟨[], [(0, (.add (.var (nIi + 0)) (.lit 1)))], [(1, (.var (nIi + 1)))], [], [], [], [], []⟩, [((.lt (.add (.var 0) (.var (nIi + 0))) (.len (.var 0))), false), ((.lt (.var (nIi + 0)) (.var 1)), true), ((.lt (.var (nIi + 0)) (.var 2)), false), ((.lt (.var 1) (.var (nIi + 0))), false), ((.lt (.var (nIi + 0)) (.lit 1)), false), ((.lt (.lit 4097) (.var (nIi + 0))), false), ((.lt (.add (.var 1) (.lit 1)) (.var (nIi + 0))), false), ((.eq (.len (.var (nIi + 1))) (.len (.var 0))), true), ((.lt (.var 1) (.var 2)), false), ((.lt (.add (.var 1) (.lit 1)) (.var 2)), false), ((.lt (.var 2) (.lit 1)), false), ((.lt (.add (.var 0) (.var 1)) (.len (.var 0))), true), ((.lt (.var 0) (.sub (.lit 65536) (.var 1))), true), ((.lt (.var 0) (.lit 0)), false), ((.lt (.var 1) (.lit 4097)), true), ((.lt (.var 1) (.lit 1)), false)]⟩,
  ⟨.normal, 0, ⟨[], [(0, (.add (.var (nIi + 0)) (.lit 1)))], [(1, (.set (.var (nIi + 1)) (.add (.var 0) (.var (nIi + 0))) (.add (.var (nIi + 0)) (.lit 1))))], [], [], [], [], []⟩, [((.lt (.add (.var 0) (.var (nIi + 0))) (.len (.var 0))), true), ((.lt (.var (nIi + 0)) (.var 1)), true), ((.lt (.var (nIi + 0)) (.var 2)), false), ((.lt (.var 1) (.var (nIi + 0))), false), ((.lt (.var (nIi + 0)) (.lit 1)), false), ((.lt (.lit 4097) (.var (nIi + 0))), false), ((.lt (.add (.var 1) (.lit 1)) (.var (nIi + 0))), false), ((.eq (.len (.var (nIi + 1))) (.len (.var 0))), true), ((.lt (.var 1) (.var 2)), false), ((.lt (.add (.var 1) (.lit 1)) (.var 2)), false), ((.lt (.var 2) (.lit 1)), false), ((.lt (.add (.var 0) (.var 1)) (.len (.var 0))), true), ((.lt (.var 0) (.sub (.lit 65536) (.var 1))), true), ((.lt (.var 0) (.lit 0)), false), ((.lt (.var 1) (.lit 4097)), true), ((.lt (.var 1) (.lit 1)), false)]⟩,
  ⟨.normal, 0, ⟨[], [(0, (.add (.var (nIi + 0)) (.lit 1)))], [(1, (.var (nIi + 1)))], [], [], [], [], []⟩, [((.lt (.add (.var 0) (.var (nIi + 0))) (.len (.var 0))), false), ((.lt (.var (nIi + 0)) (.var 1)), false), ((.lt (.var (nIi + 0)) (.var 2)), false), ((.lt (.var 1) (.var (nIi + 0))), false), ((.lt (.var (nIi + 0)) (.lit 1)), false), ((.lt (.lit 4097) (.var (nIi + 0))), false), ((.lt (.add (.var 1) (.lit 1)) (.var (nIi + 0))), false), ((.eq (.len (.var (nIi + 1))) (.len (.var 0))), true), ((.lt (.var 1) (.var 2)), false), ((.lt (.add (.var 1) (.lit 1)) (.var 2)), false), ((.lt (.var 2) (.lit 1)), false), ((.lt (.add (.var 0) (.var 1)) (.len (.var 0))), true), ((.lt (.var 0) (.sub (.lit 65536) (.var 1))), true), ((.lt (.var 0) (.lit 0)), false), ((.lt (.var 1) (.lit 4097)), true), ((.lt (.var 1) (.lit 1)), false)]⟩,
  ⟨.normal, 0, ⟨[], [(0, (.add (.var (nIi + 0)) (.lit 1)))], [(1, (.set (.var (nIi + 1)) (.add (.var 0) (.var (nIi + 0))) (.lit 0)))], [], [], [], [], []⟩, [((.lt (.add (.var 0) (.var (nIi + 0))) (.len (.var 0))), true), ((.lt (.var (nIi + 0)) (.var 1)), false), ((.lt (.var (nIi + 0)) (.var 2)), false), ((.lt (.var 1) (.var (nIi + 0))), false), ((.lt (.var (nIi + 0)) (.lit 1)), false), ((.lt (.lit 4097) (.var (nIi + 0))), false), ((.lt (.add (.var 1) (.lit 1)) (.var (nIi + 0))), false), ((.eq (.len (.var (nIi + 1))) (.len (.var 0))), true), ((.lt (.var 1) (.var 2)), false), ((.lt (.add (.var 1) (.lit 1)) (.var 2)), false), ((.lt (.var 2) (.lit 1)), false), ((.lt (.add (.var 0) (.var 1)) (.len (.var 0))), true), ((.lt (.var 0) (.sub (.lit 65536) (.var 1))), true), ((.lt (.var 0) (.lit 0)), false), ((.lt (.var 1) (.lit 4097)), true), ((.lt (.var 1) (.lit 1)), false)]⟩,
  ⟨.normal, 0, ⟨[], [(0, (.add (.var (nIi + 0)) (.lit 1)))], [(1, (.var (nIi + 1)))], [], [], [], [], []⟩, [((.lt (.add (.var 0) (.var (nIi + 0))) (.len (.var 0))), false), ((.lt (.var (nIi + 0)) (.var 2)), true), ((.lt (.var 1) (.var (nIi + 0))), false), ((.lt (.var (nIi + 0)) (.lit 1)), false), ((.lt (.lit 4097) (.var (nIi + 0))), false), ((.lt (.add (.var 1) (.lit 1)) (.var (nIi + 0))), false), ((.eq (.len (.var (nIi + 1))) (.len (.var 0))), true), ((.lt (.var 1) (.var 2)), false), ((.lt (.add (.var 1) (.lit 1)) (.var 2)), false), ((.lt (.var 2) (.lit 1)), false), ((.lt (.add (.var 0) (.var 1)) (.len (.var 0))), true), ((.lt (.var 0) (.sub (.lit 65536) (.var 1))), true), ((.lt (.var 0) (.lit 0)), false), ((.lt (.var 1) (.lit 4097)), true), ((.lt (.var 1) (.lit 1)), false)]⟩,
  ⟨.normal, 0, ⟨[], [(0, (.add (.var (nIi + 0)) (.lit 1)))], [(1, (.set (.var (nIi + 1)) (.add (.var 0) (.var (nIi + 0))) (.lit 0)))], [], [], [], [], []⟩, [((.lt (.add (.var 0) (.var (nIi + 0))) (.len (.var 0))), true), ((.lt (.var (nIi + 0)) (.var 2)), true), ((.lt (.var 1) (.var (nIi + 0))), false), ((.lt (.var (nIi + 0)) (.lit 1)), false), ((.lt (.lit 4097) (.var (nIi + 0))), false), ((.lt (.add (.var 1) (.lit 1)) (.var (nIi + 0))), false), ((.eq (.len (.var (nIi + 1))) (.len (.var 0))), true), ((.lt (.var 1) (.var 2)), false), ((.lt (.add (.var 1) (.lit 1)) (.var 2)), false), ((.lt (.var 2) (.lit 1)), false), ((.lt (.add (.var 0) (.var 1)) (.len (.var 0))), true), ((.lt (.var 0) (.sub (.lit 65536) (.var 1))), true), ((.lt (.var 0) (.lit 0)), false), ((.lt (.var 1) (.lit 4097)), true), ((.lt (.var 1) (.lit 1)), false)]⟩,
  ⟨.exit 0, 0, ⟨[], [], [], [], [], [((.var (nIi + 1)), (.gl 0 (.app 22 (.var 0) (.var 0) (.var 0) (.var 1) (.var 2) (.add (.var 1) (.lit 1)) (.var 0)) (.lit 0) (.lit 0)))], [], []⟩, [((.lt (.var 1) (.var (nIi + 0))), true), ((.lt (.var (nIi + 0)) (.lit 1)), false), ((.lt (.lit 4097) (.var (nIi + 0))), false), ((.lt (.add (.var 1) (.lit 1)) (.var (nIi + 0))), false), ((.eq (.len (.var (nIi + 1))) (.len (.var 0))), true), ((.lt (.var 1) (.var 2)), false), ((.lt (.add (.var 1) (.lit 1)) (.var 2)), false), ((.lt (.var 2) (.lit 1)), false), ((.lt (.add (.var 0) (.var 1)) (.len (.var 0))), true), ((.lt (.var 0) (.sub (.lit 65536) (.var 1))), true), ((.lt (.var 0) (.lit 0)), false), ((.lt (.var 1) (.lit 4097)), true), ((.lt (.var 1) (.lit 1)), false)]⟩]
def sumsIi1 : List SumT := [
  ⟨.normal, 0, ⟨[], [(0, (.add (.var (nIi + 0)) (.lit 1)))], [(1, (.var (nIi + 1)))], [], [], [], [], []⟩, [((.lt (.add (.var 0) (.var (nIi + 0))) (.len (.var 0))), false), ((.lt (.var (nIi + 0)) (.var 1)), true), ((.lt (.var (nIi + 0)) (.var 2)), false), ((.lt (.var 1) (.var (nIi + 0))), false), ((.lt (.var (nIi + 0)) (.lit 1)), false), ((.lt (.lit 4097) (.var (nIi + 0))), false), ((.lt (.add (.var 1) (.lit 1)) (.var (nIi + 0))), false), ((.eq (.len (.var (nIi + 1))) (.len (.var 0))), true), ((.lt (.var 1) (.var 2)), true), ((.lt (.add (.var 1) (.lit 1)) (.var 2)), false), ((.lt (.var 2) (.lit 1)), false), ((.lt (.add (.var 0) (.var 1)) (.len (.var 0))), true), ((.lt (.var 0) (.sub (.lit 65536) (.var 1))), true), ((.lt (.var 0) (.lit 0)), false), ((.lt (.var 1) (.lit 4097)), true), ((.lt (.var 1) (.lit 1)), false)]⟩,
  ⟨.normal, 0, ⟨[], [(0, (.add (.var (nIi + 0)) (.lit 1)))], [(1, (.set (.var (nIi + 1)) (.add (.var 0) (.var (nIi + 0))) (.add (.var (nIi + 0)) (.lit 1))))], [], [], [], [], []⟩, [((.lt (.add (.var 0) (.var (nIi + 0))) (.len (.var 0))), true), ((.lt (.var (nIi + 0)) (.var 1)), true), ((.lt (.var (nIi + 0)) (.var 2)), false), ((.lt (.var 1) (.var (nIi + 0))), false), ((.lt (.var (nIi + 0)) (.lit 1)), false), ((.lt (.lit 4097) (.var (nIi + 0))), false), ((.lt (.add (.var 1) (.lit 1)) (.var (nIi + 0))), false), ((.eq (.len (.var (nIi + 1))) (.len (.var 0))), true), ((.lt (.var 1) (.var 2)), true), ((.lt (.add (.var 1) (.lit 1)) (.var 2)), false), ((.lt (.var 2) (.lit 1)), false), ((.lt (.add (.var 0) (.var 1)) (.len (.var 0))), true), ((.lt (.var 0) (.sub (.lit 65536) (.var 1))), true), ((.lt (.var 0) (.lit 0)), false), ((.lt (.var 1) (.lit 4097)), true), ((.lt (.var 1) (.lit 1)), false)]⟩,
  ⟨.normal, 0, ⟨[], [(0, (.add (.var (nIi + 0)) (.lit 1)))], [(1, (.var (nIi + 1)))], [], [], [], [], []⟩, [((.lt (.add (.var 0) (.var (nIi + 0))) (.len (.var 0))), false), ((.lt (.var (nIi + 0)) (.var 1)), false), ((.lt (.var (nIi + 0)) (.var 2)), false), ((.lt (.var 1) (.var (nIi + 0))), false), ((.lt (.var (nIi + 0)) (.lit 1)), false), ((.lt (.lit 4097) (.var (nIi + 0))), false), ((.lt (.add (.var 1) (.lit 1)) (.var (nIi + 0))), false), ((.eq (.len (.var (nIi + 1))) (.len (.var 0))), true), ((.lt (.var 1) (.var 2)), true), ((.lt (.add (.var 1) (.lit 1)) (.var 2)), false), ((.lt (.var 2) (.lit 1)), false), ((.lt (.add (.var 0) (.var 1)) (.len (.var 0))), true), ((.lt (.var 0) (.sub (.lit 65536) (.var 1))), true), ((.lt (.var 0) (.lit 0)), false), ((.lt (.var 1) (.lit 4097)), true), ((.lt (.var 1) (.lit 1)), false)]⟩,
  ⟨.normal, 0, ⟨[], [(0, (.add (.var (nIi + 0)) (.lit 1)))], [(1, (.set (.var (nIi + 1)) (.add (.var 0) (.var (nIi + 0))) (.lit 0)))], [], [], [], [], []⟩, [((.lt (.add (.var 0) (.var (nIi + 0))) (.len (.var 0))), true), ((.lt (.var (nIi + 0)) (.var 1)), false), ((.lt (.var (nIi + 0)) (.var 2)), false), ((.lt (.var 1) (.var (nIi + 0))), false), ((.lt (.var (nIi + 0)) (.lit 1)), false), ((.lt (.lit 4097) (.var (nIi + 0))), false), ((.lt (.add (.var 1) (.lit 1)) (.var (nIi + 0))), false), ((.eq (.len (.var (nIi + 1))) (.len (.var 0))), true), ((.lt (.var 1) (.var 2)), true), ((.lt (.add (.var 1) (.lit 1)) (.var 2)), false), ((.lt (.var 2) (.lit 1)), false), ((.lt (.add (.var 0) (.var 1)) (.len (.var 0))), true), ((.lt (.var 0) (.sub (.lit 65536) (.var 1))), true), ((.lt (.var 0) (.lit 0)), false), ((.lt (.var 1) (.lit 4097)), true), ((.lt (.var 1) (.lit 1)), false)]⟩,
  ⟨.normal, 0, ⟨[], [(0, (.add (.var (nIi + 0)) (.lit 1)))], [(1, (.var (nIi + 1)))], [], [], [], [], []⟩, [((.lt (.add (.var 0) (.var (nIi + 0))) (.len (.var 0))), false), ((.lt (.var (nIi + 0)) (.var 2)), true), ((.lt (.var 1) (.var (nIi + 0))), false), ((.lt (.var (nIi + 0)) (.lit 1)), false), ((.lt (.lit 4097) (.var (nIi + 0))), false), ((.lt (.add (.var 1) (.lit 1)) (.var (nIi + 0))), false), ((.eq (.len (.var (nIi + 1))) (.len (.var 0))), true), ((.lt (.var 1) (.var 2)), true), ((.lt (.add (.var 1) (.lit 1)) (.var 2)), false), ((.lt (.var 2) (.lit 1)), false), ((.lt (.add (.var 0) (.var 1)) (.len (.var 0))), true), ((.lt (.var 0) (.sub (.lit 65536) (.var 1))), true), ((.lt (.var 0) (.lit 0)), false), ((.lt (.var 1) (.lit 4097)), true), ((.lt (.var 1) (.lit 1)), false)]⟩,
  ⟨.normal, 0, ⟨[], [(0, (.add (.var (nIi + 0)) (.lit 1)))], [(1, (.set (.var (nIi + 1)) (.add (.var 0) (.var (nIi + 0))) (.lit 0)))], [], [], [], [], []⟩, [((.lt (.add (.var 0) (.var (nIi + 0))) (.len (.var 0))), true), ((.lt (.var (nIi + 0)) (.var 2)), true), ((.lt (.var 1) (.var (nIi + 0))), false), ((.lt (.var (nIi + 0)) (.lit 1)), false), ((.lt (.lit 4097) (.var (nIi + 0))), false), ((.lt (.add (.var 1) (.lit 1)) (.var (nIi + 0))), false), ((.eq (.len (.var (nIi + 1))) (.len (.var 0))), true), ((.lt (.var 1) (.var 2)), true), ((.lt (.add (.var 1) (.lit 1)) (.var 2)), false), ((.lt (.var 2) (.lit 1)), false), ((.lt (.add (.var 0) (.var 1)) (.len (.var 0))), true), ((.lt (.var 0) (.sub (.lit 65536) (.var 1))), true), ((.lt (.var 0) (.lit 0)), false), ((.lt (.var 1) (.lit 4097)), true), ((.lt (.var 1) (.lit 1)), false)]⟩,
  ⟨.exit 0, 0, ⟨[], [], [], [], [], [((.var (nIi + 1)), (.gl 0 (.app 22 (.var 0) (.var 0) (.var 0) (.var 1) (.var 2) (.add (.var 1) (.lit 1)) (.var 0)) (.lit 0) (.lit 0)))], [], []⟩, [((.lt (.var 1) (.var (nIi + 0))), true), ((.lt (.var (nIi + 0)) (.lit 1)), false), ((.lt (.lit 4097) (.var (nIi + 0))), false), ((.lt (.add (.var 1) (.lit 1)) (.var (nIi + 0))), false), ((.eq (.len (.var (nIi + 1))) (.len (.var 0))), true), ((.lt (.var 1) (.var 2)), true), ((.lt (.add (.var 1) (.lit 1)) (.var 2)), false), ((.lt (.var 2) (.lit 1)), false), ((.lt (.add (.var 0) (.var 1)) (.len (.var 0))), true), ((.lt (.var 0) (.sub (.lit 65536) (.var 1))), true), ((.lt (.var 0) (.lit 0)), false), ((.lt (.var 1) (.lit 4097)), true), ((.lt (.var 1) (.lit 1)), false)]⟩]
def ouIi : List CLeaf := [
  ⟨false, (.int .i64 (.lit 2)), [((.lt (.var 0) (.sub (.lit 65536) (.var 1))), false), ((.lt (.var 0) (.lit 0)), false), ((.lt (.var 1) (.lit 4097)), true), ((.lt (.var 1) (.lit 1)), false)], [(0, (.cells [(.sl 1 (.lit 0) (.len (.var 0)) (.var 3))] 75 true)), (1, (.row .u64 (.var 0) (.var 3) 46))]⟩,
  ⟨false, (.int .i64 (.lit 2)), [((.lt (.var 2) (.lit 1)), true), ((.lt (.add (.var 0) (.var 1)) (.len (.var 0))), false), ((.lt (.var 0) (.sub (.lit 65536) (.var 1))), true), ((.lt (.var 0) (.lit 0)), false), ((.lt (.var 1) (.lit 4097)), true), ((.lt (.var 1) (.lit 1)), false)], [(0, (.cells [(.sl 1 (.lit 0) (.len (.var 0)) (.var 3))] 75 true)), (1, (.row .u64 (.var 0) (.var 3) 46))]⟩,
  ⟨false, (.int .i64 (.lit 2)), [((.lt (.add (.var 1) (.lit 1)) (.var 2)), true), ((.lt (.var 2) (.lit 1)), false), ((.lt (.add (.var 0) (.var 1)) (.len (.var 0))), false), ((.lt (.var 0) (.sub (.lit 65536) (.var 1))), true), ((.lt (.var 0) (.lit 0)), false), ((.lt (.var 1) (.lit 4097)), true), ((.lt (.var 1) (.lit 1)), false)], [(0, (.cells [(.sl 1 (.lit 0) (.len (.var 0)) (.var 3))] 75 true)), (1, (.row .u64 (.var 0) (.var 3) 46))]⟩,
  ⟨false, (.int .i64 (.lit 3)), [((.lt (.add (.var 1) (.lit 1)) (.var 2)), false), ((.lt (.var 2) (.lit 1)), false), ((.lt (.add (.var 0) (.var 1)) (.len (.var 0))), false), ((.lt (.var 0) (.sub (.lit 65536) (.var 1))), true), ((.lt (.var 0) (.lit 0)), false), ((.lt (.var 1) (.lit 4097)), true), ((.lt (.var 1) (.lit 1)), false)], [(0, (.cells [(.sl 1 (.lit 0) (.len (.var 0)) (.var 3))] 75 true)), (1, (.row .u64 (.var 0) (.var 3) 46))]⟩,
  ⟨false, (.int .i64 (.lit 2)), [((.lt (.var 2) (.lit 1)), true), ((.lt (.add (.var 0) (.var 1)) (.len (.var 0))), true), ((.lt (.var 0) (.sub (.lit 65536) (.var 1))), true), ((.lt (.var 0) (.lit 0)), false), ((.lt (.var 1) (.lit 4097)), true), ((.lt (.var 1) (.lit 1)), false)], [(0, (.cells [(.sl 1 (.lit 0) (.len (.var 0)) (.var 3))] 75 true)), (1, (.row .u64 (.var 0) (.var 3) 46))]⟩,
  ⟨false, (.int .i64 (.lit 2)), [((.lt (.add (.var 1) (.lit 1)) (.var 2)), true), ((.lt (.var 2) (.lit 1)), false), ((.lt (.add (.var 0) (.var 1)) (.len (.var 0))), true), ((.lt (.var 0) (.sub (.lit 65536) (.var 1))), true), ((.lt (.var 0) (.lit 0)), false), ((.lt (.var 1) (.lit 4097)), true), ((.lt (.var 1) (.lit 1)), false)], [(0, (.cells [(.sl 1 (.lit 0) (.len (.var 0)) (.var 3))] 75 true)), (1, (.row .u64 (.var 0) (.var 3) 46))]⟩,
  ⟨false, (.int .i64 (.lit 0)), [((.lt (.var 1) (.var 2)), false), ((.lt (.add (.var 1) (.lit 1)) (.var 2)), false), ((.lt (.var 2) (.lit 1)), false), ((.lt (.add (.var 0) (.var 1)) (.len (.var 0))), true), ((.lt (.var 0) (.sub (.lit 65536) (.var 1))), true), ((.lt (.var 0) (.lit 0)), false), ((.lt (.var 1) (.lit 4097)), true), ((.lt (.var 1) (.lit 1)), false)], [(0, (.cells [(.sl 1 (.lit 0) (.len (.var 0)) (.var 3))] 75 true)), (1, (.row .u64 (.gl 0 (.app 22 (.var 0) (.var 0) (.var 0) (.var 1) (.var 2) (.add (.var 1) (.lit 1)) (.var 0)) (.lit 0) (.lit 0)) (.var 3) 46))]⟩,
  ⟨false, (.int .i64 (.lit 0)), [((.lt (.var 1) (.var 2)), true), ((.lt (.add (.var 1) (.lit 1)) (.var 2)), false), ((.lt (.var 2) (.lit 1)), false), ((.lt (.add (.var 0) (.var 1)) (.len (.var 0))), true), ((.lt (.var 0) (.sub (.lit 65536) (.var 1))), true), ((.lt (.var 0) (.lit 0)), false), ((.lt (.var 1) (.lit 4097)), true), ((.lt (.var 1) (.lit 1)), false)], [(0, (.cells [(.sl 1 (.lit 0) (.len (.var 0)) (.var 3))] 75 true)), (1, (.row .u64 (.gl 0 (.app 22 (.var 0) (.var 0) (.var 0) (.var 1) (.var 2) (.add (.var 1) (.lit 1)) (.var 0)) (.lit 0) (.lit 0)) (.var 3) 46))]⟩,
  ⟨false, (.int .i64 (.lit 2)), [((.lt (.var 0) (.lit 0)), true), ((.lt (.var 1) (.lit 4097)), true), ((.lt (.var 1) (.lit 1)), false)], [(0, (.cells [(.sl 1 (.lit 0) (.len (.var 0)) (.var 3))] 75 true)), (1, (.row .u64 (.var 0) (.var 3) 46))]⟩,
  ⟨false, (.int .i64 (.lit 2)), [((.lt (.var 1) (.lit 4097)), false), ((.lt (.var 1) (.lit 1)), false)], [(0, (.cells [(.sl 1 (.lit 0) (.len (.var 0)) (.var 3))] 75 true)), (1, (.row .u64 (.var 0) (.var 3) 46))]⟩,
  ⟨false, (.int .i64 (.lit 2)), [((.lt (.var 1) (.lit 1)), true)], [(0, (.cells [(.sl 1 (.lit 0) (.len (.var 0)) (.var 3))] 75 true)), (1, (.row .u64 (.var 0) (.var 3) 46))]⟩]
theorem oIi_ok : OOK Try.prog (oIi Try.prog) inM := pruned_ok pr (opLoadS_ok (opAppendW_ok (opSliceT_ok noOrac_ok)))
theorem oneIi : (loopsAt Try.prog fIi 13).length = 1 := by kernel_rfl
theorem runIi : runX Try.prog (oIiL Try.prog) fIi tIi.args tIi.pc tIi.hp = some ouIi := by kernel_rfl
structure FactsIi (ν : Env Gh) : Prop where
  at0 : 0 ≤ ν.i 0
  n1 : 1 ≤ ν.i 1
  n2 : ν.i 1 ≤ 4096
  room : ν.i 0 + ν.i 1 < (ν.l 0).length
  f1 : 1 ≤ ν.i 2
  f2 : ν.i 2 ≤ ν.i 1 + 1
theorem pcIi_eq0 : (eIi Try.prog 0).pc = pcIi0 := by kernel_rfl
theorem avIi0 : pav nIi (nIi + 64) pcIi0 = true := by kernel_rfl
theorem bIi0 : sIi Try.prog 0 = some sumsIi0 := by kernel_rfl
theorem stIi0 : mAll nIi 0 0 Try.prog (eIi Try.prog 0).fr (eIi Try.prog 0).hp (hIi Try.prog 0).fr (hIi Try.prog 0).hp = some startIi0 := by kernel_rfl
theorem factsIi0 {ν : Env Gh} (h : pcDen ν pcIi0) : FactsIi ν := by
  simp only [pcIi0, pcDen_cons_iff, pcDen_nil_iff, SB.den, decide_eq_true_eq, decide_eq_false_iff_not] at h
  simp only [SI.den, SL.den] at h
  obtain ⟨h1, h2, h3, h4, h5, h6, h7, h8, -⟩ := h
  exact ⟨by omega, by omega, by omega, by omega, by omega, by omega⟩
theorem pcIi_eq1 : (eIi Try.prog 1).pc = pcIi1 := by kernel_rfl
theorem avIi1 : pav nIi (nIi + 64) pcIi1 = true := by kernel_rfl
theorem bIi1 : sIi Try.prog 1 = some sumsIi1 := by kernel_rfl
theorem stIi1 : mAll nIi 0 0 Try.prog (eIi Try.prog 1).fr (eIi Try.prog 1).hp (hIi Try.prog 1).fr (hIi Try.prog 1).hp = some startIi1 := by kernel_rfl
theorem factsIi1 {ν : Env Gh} (h : pcDen ν pcIi1) : FactsIi ν := by
  simp only [pcIi1, pcDen_cons_iff, pcDen_nil_iff, SB.den, decide_eq_true_eq, decide_eq_false_iff_not] at h
  simp only [SI.den, SL.den] at h
  obtain ⟨h1, h2, h3, h4, h5, h6, h7, h8, -⟩ := h
  exact ⟨by omega, by omega, by omega, by omega, by omega, by omega⟩
attribute [local irreducible] nmAt
theorem oIi_ok0 {O' : Orac} (oo' : OOK Try.prog O' inM) : OOK Try.prog (O'.withLoop fIi 13 nIi (eIi Try.prog 0).fr (eIi Try.prog 0).hp (mIi Try.prog 0)) inM := by
  have hb : ∀ {ν : Env Gh}, (∀ x ∈ (eIi Try.prog 0).pc.map fun x => (x.1, !x.2), x.1.den ν ≠ x.2) → pcDen ν pcIi0 := fun h => by rw [pcIi_eq0] at h; exact bads_of h
  have hp : ∀ {ν : Env Gh} {x : Vals Gh}, pcDen ν pcIi0 → 1 ≤ x.i 0 → x.i 0 ≤ ν.i 1 + 1 → (x.l 1).length = (ν.l 0).length → pcDen (ν.at nIi x) (pIi Try.prog 0) := by
    intro ν x h h0 h1 h2
    have F := factsIi0 h
    have F1 := F.n2
    have rf : RF nIi ν x (ν.at nIi x) := RF.self rfl
    have r0 : (ν.at nIi x).i nIi = x.i 0 := rf.i 0 (by decide)
    have hold : pcDen (ν.at nIi x) pcIi0 := pcDen_agree (at_agree (ρ := fun _ => 0) (ρ' := fun _ => 0) (fun _ _ => rfl)) avIi0 h
    unfold pIi
    rw [pcIi_eq0]
    refine pcDen_append (pcDen_cons (lt_of ?_) (pcDen_cons (lt_of ?_) (pcDen_cons (lt_of ?_) (pcDen_one ?_)))) hold
    · simp only [SI.den, r0, Bool.false_eq_true, iff_false]; omega
    · simp only [SI.den, r0, Bool.false_eq_true, iff_false]; omega
    · simp only [SI.den, r0, rf.io 1 (by decide), Bool.false_eq_true, iff_false]; omega
    · simp only [SB.den, beq_iff_eq]
      simp only [SI.den, SL.den, rf.l 1 (by decide), rf.lo 0 (by decide)]
      omega
  refine loopT_ok pr oIi_ok (rfl : nIi = nmAt 13) (by decide +kernel) oneIi (ghL []) bIi0 stIi0
    (fun ν x => 1 ≤ x.i 0 ∧ x.i 0 ≤ ν.i 1 + 1 ∧ x.l 1 = iG (ν.l 0) (ν.i 0) (ν.i 1) (ν.i 2) (x.i 0)) (fun ν x => (ν.i 1 + 1 - x.i 0).toNat) ?_ ?_ oo'
  · intro ν hI h
    have hp' := hb h
    have F := factsIi0 hp'
    obtain ⟨f1, f2, f3, f4, f5, f6⟩ := F
    have c0 := lt_den (pcAt hp' 0 rfl)
    simp only [SI.den, Bool.false_eq_true, iff_false, iff_true] at c0
    generalize hy : Mt.vals startIi0 (ghL []) ν = y
    have y0 : y.i 0 = 1 := by rw [← hy]; simp only [startIi0, Mt.vals, lkp_cons, lkp_nil, Nat.reduceEqDiff, reduceIte, SI.den]
    have y1 : y.l 1 = (ν.l 0).set (ν.i 0).toNat (if ν.i 2 ≤ ν.i 1 then ν.i 2 else 0) := by
      first | rw [if_pos (by omega)] | rw [if_neg (by omega)]
      rw [← hy]; simp only [startIi0, Mt.vals, lkp_cons, lkp_nil, Nat.reduceEqDiff, reduceIte, SL.den, SI.den]
      try rw [wrapU, Int.emod_eq_of_lt (by omega) (by omega)]
    refine ⟨⟨by omega, by omega, ?_⟩, hp hp' (by omega) (by omega) (by rw [y1, List.length_set]), ?_⟩
    · rw [y1, y0]
      exact iG_start (by omega) rfl
    · constructor <;> simp [startIi0]
  · intro t ht ν x ν2 hI h hJ _ rf hpc
    have hp' := hb h
    obtain ⟨f1, f2, f3, f4, f5, f6⟩ := factsIi0 hp'
    obtain ⟨j0, j1, j2⟩ := hJ
    have q0 : ν2.i (nIi + 0) = x.i 0 := rf.i 0 (by decide)
    have q1 : ν2.l (nIi + 1) = x.l 1 := rf.l 1 (by decide)
    have qa : ν2.i 0 = ν.i 0 := rf.io 0 (by decide)
    have qn : ν2.i 1 = ν.i 1 := rf.io 1 (by decide)
    have qf : ν2.i 2 = ν.i 2 := rf.io 2 (by decide)
    have ql : ν2.l 0 = ν.l 0 := rf.lo 0 (by decide)
    have hl : (x.l 1).length = (ν.l 0).length := by rw [j2, iG_length]
    simp only [sumsIi0, List.mem_cons, List.not_mem_nil, or_false] at ht
    rcases ht with rfl | rfl | rfl | rfl | rfl | rfl | rfl
    all_goals
      simp only [pcDen_cons_iff, pcDen_nil_iff, SB.den, decide_eq_true_eq, decide_eq_false_iff_not, beq_iff_eq] at hpc
      simp only [SI.den, SL.den, q0, q1, qa, qn, qf, ql] at hpc
    any_goals (exfalso; omega)
    any_goals
      generalize hy : Mt.vals _ (ghL []) ν2 = y
      have y0 : y.i 0 = x.i 0 + 1 := by rw [← hy]; simp only [Mt.vals, lkp_cons, lkp_nil, Nat.reduceEqDiff, reduceIte, SI.den, q0]
      have y1 : y.l 1 = (x.l 1).set (ν.i 0 + x.i 0).toNat (if ν.i 2 ≤ x.i 0 ∧ x.i 0 < ν.i 1 then x.i 0 + 1 else 0) := by
        first | rw [if_pos (by omega)] | rw [if_neg (by omega)]
        rw [← hy]; simp only [Mt.vals, lkp_cons, lkp_nil, Nat.reduceEqDiff, reduceIte, SI.den, SL.den, q0, q1, qa]
      refine ⟨⟨by omega, by omega, ?_⟩, hp hp' (by omega) (by omega) (by rw [y1, List.length_set]; exact hl), by show _ < (ν.i 1 + 1 - x.i 0).toNat; omega, by constructor <;> simp⟩
      rw [y1, y0, j2]
      exact iG_set (by omega) j0 rfl
    have rf3 : ∀ y, RF nIi ν y (ν.at nIi y) := fun y => RF.self rfl
    refine ⟨fun g hg => by cases hg; exact pcDen_nil _, ?_⟩
    constructor
    · simp
    · intro z hz
      simp only [List.mem_cons, List.not_mem_nil, or_false] at hz
      subst hz
      simp only [SL.den, q1]
      rw [j2]
      simp only [SG.den, SI.den, SL.den, (rf3 _).I, hI, (rf3 _).io 0 (by decide), (rf3 _).io 1 (by decide), (rf3 _).io 2 (by decide), (rf3 _).lo 0 (by decide)]
      rw [show x.i 0 = ν.i 1 + 1 by omega]
      rfl
    · simp
    · simp
theorem oIi_ok1 {O' : Orac} (oo' : OOK Try.prog O' inM) : OOK Try.prog (O'.withLoop fIi 13 nIi (eIi Try.prog 1).fr (eIi Try.prog 1).hp (mIi Try.prog 1)) inM := by
  have hb : ∀ {ν : Env Gh}, (∀ x ∈ (eIi Try.prog 1).pc.map fun x => (x.1, !x.2), x.1.den ν ≠ x.2) → pcDen ν pcIi1 := fun h => by rw [pcIi_eq1] at h; exact bads_of h
  have hp : ∀ {ν : Env Gh} {x : Vals Gh}, pcDen ν pcIi1 → 1 ≤ x.i 0 → x.i 0 ≤ ν.i 1 + 1 → (x.l 1).length = (ν.l 0).length → pcDen (ν.at nIi x) (pIi Try.prog 1) := by
    intro ν x h h0 h1 h2
    have F := factsIi1 h
    have F1 := F.n2
    have rf : RF nIi ν x (ν.at nIi x) := RF.self rfl
    have r0 : (ν.at nIi x).i nIi = x.i 0 := rf.i 0 (by decide)
    have hold : pcDen (ν.at nIi x) pcIi1 := pcDen_agree (at_agree (ρ := fun _ => 0) (ρ' := fun _ => 0) (fun _ _ => rfl)) avIi1 h
    unfold pIi
    rw [pcIi_eq1]
    refine pcDen_append (pcDen_cons (lt_of ?_) (pcDen_cons (lt_of ?_) (pcDen_cons (lt_of ?_) (pcDen_one ?_)))) hold
    · simp only [SI.den, r0, Bool.false_eq_true, iff_false]; omega
    · simp only [SI.den, r0, Bool.false_eq_true, iff_false]; omega
    · simp only [SI.den, r0, rf.io 1 (by decide), Bool.false_eq_true, iff_false]; omega
    · simp only [SB.den, beq_iff_eq]
      simp only [SI.den, SL.den, rf.l 1 (by decide), rf.lo 0 (by decide)]
      omega
  refine loopT_ok pr oIi_ok (rfl : nIi = nmAt 13) (by decide +kernel) oneIi (ghL []) bIi1 stIi1
    (fun ν x => 1 ≤ x.i 0 ∧ x.i 0 ≤ ν.i 1 + 1 ∧ x.l 1 = iG (ν.l 0) (ν.i 0) (ν.i 1) (ν.i 2) (x.i 0)) (fun ν x => (ν.i 1 + 1 - x.i 0).toNat) ?_ ?_ oo'
  · intro ν hI h
    have hp' := hb h
    have F := factsIi1 hp'
    obtain ⟨f1, f2, f3, f4, f5, f6⟩ := F
    have c0 := lt_den (pcAt hp' 0 rfl)
    simp only [SI.den, Bool.false_eq_true, iff_false, iff_true] at c0
    generalize hy : Mt.vals startIi1 (ghL []) ν = y
    have y0 : y.i 0 = 1 := by rw [← hy]; simp only [startIi1, Mt.vals, lkp_cons, lkp_nil, Nat.reduceEqDiff, reduceIte, SI.den]
    have y1 : y.l 1 = (ν.l 0).set (ν.i 0).toNat (if ν.i 2 ≤ ν.i 1 then ν.i 2 else 0) := by
      first | rw [if_pos (by omega)] | rw [if_neg (by omega)]
      rw [← hy]; simp only [startIi1, Mt.vals, lkp_cons, lkp_nil, Nat.reduceEqDiff, reduceIte, SL.den, SI.den]
      try rw [wrapU, Int.emod_eq_of_lt (by omega) (by omega)]
    refine ⟨⟨by omega, by omega, ?_⟩, hp hp' (by omega) (by omega) (by rw [y1, List.length_set]), ?_⟩
    · rw [y1, y0]
      exact iG_start (by omega) rfl
    · constructor <;> simp [startIi1]
  · intro t ht ν x ν2 hI h hJ _ rf hpc
    have hp' := hb h
    obtain ⟨f1, f2, f3, f4, f5, f6⟩ := factsIi1 hp'
    obtain ⟨j0, j1, j2⟩ := hJ
    have q0 : ν2.i (nIi + 0) = x.i 0 := rf.i 0 (by decide)
    have q1 : ν2.l (nIi + 1) = x.l 1 := rf.l 1 (by decide)
    have qa : ν2.i 0 = ν.i 0 := rf.io 0 (by decide)
    have qn : ν2.i 1 = ν.i 1 := rf.io 1 (by decide)
    have qf : ν2.i 2 = ν.i 2 := rf.io 2 (by decide)
    have ql : ν2.l 0 = ν.l 0 := rf.lo 0 (by decide)
    have hl : (x.l 1).length = (ν.l 0).length := by rw [j2, iG_length]
    simp only [sumsIi1, List.mem_cons, List.not_mem_nil, or_false] at ht
    rcases ht with rfl | rfl | rfl | rfl | rfl | rfl | rfl
    all_goals
      simp only [pcDen_cons_iff, pcDen_nil_iff, SB.den, decide_eq_true_eq, decide_eq_false_iff_not, beq_iff_eq] at hpc
      simp only [SI.den, SL.den, q0, q1, qa, qn, qf, ql] at hpc
    any_goals (exfalso; omega)
    any_goals
      generalize hy : Mt.vals _ (ghL []) ν2 = y
      have y0 : y.i 0 = x.i 0 + 1 := by rw [← hy]; simp only [Mt.vals, lkp_cons, lkp_nil, Nat.reduceEqDiff, reduceIte, SI.den, q0]
      have y1 : y.l 1 = (x.l 1).set (ν.i 0 + x.i 0).toNat (if ν.i 2 ≤ x.i 0 ∧ x.i 0 < ν.i 1 then x.i 0 + 1 else 0) := by
        first | rw [if_pos (by omega)] | rw [if_neg (by omega)]
        rw [← hy]; simp only [Mt.vals, lkp_cons, lkp_nil, Nat.reduceEqDiff, reduceIte, SI.den, SL.den, q0, q1, qa]
      refine ⟨⟨by omega, by omega, ?_⟩, hp hp' (by omega) (by omega) (by rw [y1, List.length_set]; exact hl), by show _ < (ν.i 1 + 1 - x.i 0).toNat; omega, by constructor <;> simp⟩
      rw [y1, y0, j2]
      exact iG_set (by omega) j0 rfl
    have rf3 : ∀ y, RF nIi ν y (ν.at nIi y) := fun y => RF.self rfl
    refine ⟨fun g hg => by cases hg; exact pcDen_nil _, ?_⟩
    constructor
    · simp
    · intro z hz
      simp only [List.mem_cons, List.not_mem_nil, or_false] at hz
      subst hz
      simp only [SL.den, q1]
      rw [j2]
      simp only [SG.den, SI.den, SL.den, (rf3 _).I, hI, (rf3 _).io 0 (by decide), (rf3 _).io 1 (by decide), (rf3 _).io 2 (by decide), (rf3 _).lo 0 (by decide)]
      rw [show x.i 0 = ν.i 1 + 1 by omega]
      rfl
    · simp
    · simp
theorem oIiL_ok : OOK Try.prog (oIiL Try.prog) inM := withLoopF_ok (withLoopF_ok oIi_ok (oIi_ok0 oIi_ok)) (oIi_ok1 (withLoopF_ok oIi_ok (oIi_ok0 oIi_ok)))
/-! as long as it was -/
def lenI : SB := .eq (.len linkIn) (.len (.var 0))
def shIiL (c : CLeaf) : CLeaf := match c.v with
  | .int _ (.lit 0) => { c with pc := (lenI, true) :: c.pc }
  | _ => c
def shIi : List CLeaf := ouIi.map shIiL
theorem shIi_ok : ∀ c ∈ ouIi, ∀ ν : Env Gh, ν.I = inM → pcDen ν c.pc → ∃ c' ∈ shIi, c'.bad = c.bad ∧ (∀ ρ, c'.v.den ν ρ = c.v.den ν ρ) ∧ c'.hp.Sublist c.hp ∧ pcDen ν c'.pc := by
  intro c hc ν hI hp
  refine ⟨shIiL c, List.mem_map.2 ⟨c, hc, rfl⟩, ?_⟩
  have hlen : lenI.den ν = true := by
    simp only [lenI, SB.den, beq_iff_eq]
    simp only [linkIn, linkI, SI.den, SL.den, SG.den, hI, inM_gl, inM, ghL, iG_length]
  unfold shIiL
  split
  · exact ⟨rfl, fun _ => rfl, List.Sublist.refl _, pcDen_cons hlen hp⟩
  · exact ⟨rfl, fun _ => rfl, List.Sublist.refl _, hp⟩
theorem arI_ok {O : Orac} (oo : OOK Try.prog O inM) : OOK Try.prog (O.withCallF fIi (sumK Try.prog tIi shIi)) inM := withCallF_ok oo (sum_okC pr oIiL_ok runIi shIi_ok oo)
end Go.Proofs.Ytcbgmkngkkajlaa
end
