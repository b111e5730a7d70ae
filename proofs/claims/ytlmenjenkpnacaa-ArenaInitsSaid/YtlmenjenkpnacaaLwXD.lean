/- arena.Arena.Free on what Init leaves: its state, its loop's head. -/
import Derived.Test.YtlmenjenkpnacaaLwXB
import Derived.Test.YtlmenjenkpnacaaSyL
import Derived.Test.YtlmenjenkpnacaaLwXA
set_option linter.unusedVariables false
set_option linter.unusedSimpArgs false

section
namespace Go.Proofs.Ytlmenjenkpnacaa
open Go Go.Sy Go.RowKit

def fIf : Nat := 22
def hpIf : Heap := [(0, .cells [.sl 1 (.lit 0) (.len (.var 0)) (.var 3)] 105 true), (1, .row .u64 linkIn (.var 3) 53)]
def pcIf0 : PC := [(.eq (.len linkIn) (.len (.var 0)), true), (.lt (.var 0) (.lit 0), false), (.lt (.var 1) (.lit 1), false), (.lt (.lit 60) (.var 1), false), (.lt (.var 2) (.lit 1), false), (.lt (.add (.var 1) (.lit 1)) (.var 2), false), (.lt (.add (.var 0) (.var 1)) (.len (.var 0)), true), (.lt (.var 0) (.sub (.lit 65536) (.var 1)), true), (.lt (.lit 100) (.len (.var 0)), false)]
def tIf : Tmpl := ⟨[.agg [.int .i64 (.var 0), .int .i64 (.var 1)], .ptr 0 (.lit 0)], pcIf0, hpIf⟩
def nIf : Nat := nmAt 8
def oIf (P : Program) : Orac := (((oSm P).withOp (opBool P)).withOp (opSliceU P)).pruned P
def eIf (P : Program) : Leaf := capN 0 (capAll P (oIf P) fIf 8 tIf.args tIf.pc tIf.hp)
def upL : SL := .gl 0 (.app 47 (.var 0) (.var 0) (.var 2) (.add (.var 1) (.lit 1)) (.lit 0) (.lit 0) .nil) (.lit 0) (.lit 0)
def seenB (P : Program) : Nat := match (eIf P).fr[9]? with | some v => ptrOf v | none => 0
def seenX : SL := .var (nIf + 2)
def reB (l : SL) : SBk → SBk
  | .res (.app f g h a b c d _) => .res (.app f g h a b c d l)
  | x => x
def hIf (P : Program) : Leaf := hdN nIf 8 1 .i64 3 (let L := eIf P
  { L with fr := (keepFr [2, 7, 9] L.fr).set 10 (.int .u32 (.var nIf)), hp := L.hp.map fun x => if Nat.beq x.1 (seenB P) then (x.1, reB seenX x.2) else x })
def pIf (P : Program) : PC := [(.lt (.var nIf) (.lit 0), false), (.lt (.var 1) (.var nIf), false), (.lt (.lit 100) (.len (.var (nIf + 1))), false), (.eq (.len (.var (nIf + 2))) (.add (.var 1) (.lit 1)), true)] ++ (eIf P).pc
def gIf (P : Program) : List Tgt := let L := eIf P
  [⟨.exit 0, ((keepFr [] L.fr).set 8 (.sl (nIf + 1) (.lit 0) (.len upL) (.var (nIf + 1)))), hadd (nIf + 1) (.row .i64 upL (.var (nIf + 1)) 3) (L.hp.filter fun x => Nat.ble x.1 1), [(.lt (.var 1) (.var 2), false)]⟩,
   ⟨.exit 0, keepFr [8] L.fr, L.hp.filter fun x => Nat.ble x.1 1, [(.lt (.var 1) (.var 2), true)]⟩,
   ⟨.ret, ((keepFr [] L.fr).set 4 .nilSl).set 5 (.int .i64 (.lit 9)), L.hp.filter fun x => Nat.ble x.1 1, [(.lit false, true)]⟩]
def tgIf (P : Program) : List Tgt := ⟨.normal, (hIf P).fr, (hIf P).hp, pIf P⟩ :: gIf P
def bdIf (P : Program) : PC := (eIf P).pc.map fun x => (x.1, !x.2)
def body0If (P : Program) : Option (List SumT) := (codeX P (oIf P) LO7 SZ7 fIf 6000 0 (loopAt P fIf 8) (eIf P).fr ((bdIf P).map fun x => (x.1, !x.2)) (eIf P).hp).bind (sumsT P nIf LO7 SZ7 (tgIf P))
def body1If (P : Program) : Option (List SumT) := (codeX P (oIf P) LO7 SZ7 fIf 6000 0 (loopAt P fIf 8) (hIf P).fr (pIf P) (hIf P).hp).bind (sumsT P nIf LO7 SZ7 (tgIf P))
def oIfL (P : Program) : Orac := (oIf P).withLoop fIf 8 nIf (eIf P).fr (eIf P).hp (mkM nIf (gIf P) (bdIf P))
end Go.Proofs.Ytlmenjenkpnacaa
end

section
namespace Go.Proofs.Ytlmenjenkpnacaa
open Go Go.Sy Go.RowKit

def pcIf : PC := [((.eq (.len (.gl 0 (.app 22 (.var 0) (.var 0) (.var 0) (.var 1) (.var 2) (.add (.var 1) (.lit 1)) (.var 0)) (.lit 0) (.lit 0))) (.len (.var 0))), true), ((.lt (.var 0) (.lit 0)), false), ((.lt (.var 1) (.lit 1)), false), ((.lt (.lit 60) (.var 1)), false), ((.lt (.var 2) (.lit 1)), false), ((.lt (.add (.var 1) (.lit 1)) (.var 2)), false), ((.lt (.add (.var 0) (.var 1)) (.len (.var 0))), true), ((.lt (.var 0) (.sub (.lit 65536) (.var 1))), true), ((.lt (.lit 100) (.len (.var 0))), false)]
def sums0If : List SumT := [
  ⟨.ret, 2, ⟨[], [], [], [], [], [], [], []⟩, [((.lt (.var 1) (.wrap .u32 (.nth (.take (.gl 0 (.app 22 (.var 0) (.var 0) (.var 0) (.var 1) (.var 2) (.add (.var 1) (.lit 1)) (.var 0)) (.lit 0) (.lit 0)) (.len (.var 0))) (.var 0)))), true), ((.lt (.wrap .u32 (.nth (.take (.gl 0 (.app 22 (.var 0) (.var 0) (.var 0) (.var 1) (.var 2) (.add (.var 1) (.lit 1)) (.var 0)) (.lit 0) (.lit 0)) (.len (.var 0))) (.var 0))) (.lit 1)), false), ((.eq (.len (.gl 0 (.app 22 (.var 0) (.var 0) (.var 0) (.var 1) (.var 2) (.add (.var 1) (.lit 1)) (.var 0)) (.lit 0) (.lit 0))) (.len (.var 0))), true), ((.lt (.var 0) (.lit 0)), false), ((.lt (.var 1) (.lit 1)), false), ((.lt (.lit 60) (.var 1)), false), ((.lt (.var 2) (.lit 1)), false), ((.lt (.add (.var 1) (.lit 1)) (.var 2)), false), ((.lt (.add (.var 0) (.var 1)) (.len (.var 0))), true), ((.lt (.var 0) (.sub (.lit 65536) (.var 1))), true), ((.lt (.lit 100) (.len (.var 0))), false)]⟩,
  ⟨.bad, 0, ⟨[], [], [], [], [], [], [], []⟩, [((.lt (.add (.var 0) (.wrap .u32 (.nth (.take (.gl 0 (.app 22 (.var 0) (.var 0) (.var 0) (.var 1) (.var 2) (.add (.var 1) (.lit 1)) (.var 0)) (.lit 0) (.lit 0)) (.len (.var 0))) (.var 0)))) (.len (.var 0))), false), ((.lt (.var 1) (.wrap .u32 (.nth (.take (.gl 0 (.app 22 (.var 0) (.var 0) (.var 0) (.var 1) (.var 2) (.add (.var 1) (.lit 1)) (.var 0)) (.lit 0) (.lit 0)) (.len (.var 0))) (.var 0)))), false), ((.lt (.wrap .u32 (.nth (.take (.gl 0 (.app 22 (.var 0) (.var 0) (.var 0) (.var 1) (.var 2) (.add (.var 1) (.lit 1)) (.var 0)) (.lit 0) (.lit 0)) (.len (.var 0))) (.var 0))) (.lit 1)), false), ((.eq (.len (.gl 0 (.app 22 (.var 0) (.var 0) (.var 0) (.var 1) (.var 2) (.add (.var 1) (.lit 1)) (.var 0)) (.lit 0) (.lit 0))) (.len (.var 0))), true), ((.lt (.var 0) (.lit 0)), false), ((.lt (.var 1) (.lit 1)), false), ((.lt (.lit 60) (.var 1)), false), ((.lt (.var 2) (.lit 1)), false), ((.lt (.add (.var 1) (.lit 1)) (.var 2)), false), ((.lt (.add (.var 0) (.var 1)) (.len (.var 0))), true), ((.lt (.var 0) (.sub (.lit 65536) (.var 1))), true), ((.lt (.lit 100) (.len (.var 0))), false)]⟩,
  ⟨.normal, 0, ⟨[((nIf + 1), 5260135901548373507240989938184872167596213953876545866774076723762615537624279825255787426394609121738222744071473766080018802523285236618544732993614454383043364974644712387262571779035753793006612183414472704)], [(0, (.wrap .u32 (.nth (.take (.gl 0 (.app 22 (.var 0) (.var 0) (.var 0) (.var 1) (.var 2) (.add (.var 1) (.lit 1)) (.var 0)) (.lit 0) (.lit 0)) (.len (.var 0))) (.add (.var 0) (.wrap .u32 (.nth (.take (.gl 0 (.app 22 (.var 0) (.var 0) (.var 0) (.var 1) (.var 2) (.add (.var 1) (.lit 1)) (.var 0)) (.lit 0) (.lit 0)) (.len (.var 0))) (.var 0))))))), (1, (.var 5260135901548373507240989938184872167596213953876545866774076723762615537624279825255787426394609121738222744071473766080018802523285236618544732993614454383043364974644712387262571779035753793006612183414472704))], [(1, (.cons (.wrap .u32 (.nth (.take (.gl 0 (.app 22 (.var 0) (.var 0) (.var 0) (.var 1) (.var 2) (.add (.var 1) (.lit 1)) (.var 0)) (.lit 0) (.lit 0)) (.len (.var 0))) (.var 0))) .nil)), (2, (.set (.rep (.add (.var 1) (.lit 1)) (.lit 0)) (.wrap .u32 (.nth (.take (.gl 0 (.app 22 (.var 0) (.var 0) (.var 0) (.var 1) (.var 2) (.add (.var 1) (.lit 1)) (.var 0)) (.lit 0) (.lit 0)) (.len (.var 0))) (.var 0))) (.lit 1)))], [], [((.lit 1), (.len (.var (nIf + 1))))], [], [], []⟩, [((.lt (.add (.var 0) (.wrap .u32 (.nth (.take (.gl 0 (.app 22 (.var 0) (.var 0) (.var 0) (.var 1) (.var 2) (.add (.var 1) (.lit 1)) (.var 0)) (.lit 0) (.lit 0)) (.len (.var 0))) (.var 0)))) (.len (.var 0))), true), ((.lt (.var 1) (.wrap .u32 (.nth (.take (.gl 0 (.app 22 (.var 0) (.var 0) (.var 0) (.var 1) (.var 2) (.add (.var 1) (.lit 1)) (.var 0)) (.lit 0) (.lit 0)) (.len (.var 0))) (.var 0)))), false), ((.lt (.wrap .u32 (.nth (.take (.gl 0 (.app 22 (.var 0) (.var 0) (.var 0) (.var 1) (.var 2) (.add (.var 1) (.lit 1)) (.var 0)) (.lit 0) (.lit 0)) (.len (.var 0))) (.var 0))) (.lit 1)), false), ((.eq (.len (.gl 0 (.app 22 (.var 0) (.var 0) (.var 0) (.var 1) (.var 2) (.add (.var 1) (.lit 1)) (.var 0)) (.lit 0) (.lit 0))) (.len (.var 0))), true), ((.lt (.var 0) (.lit 0)), false), ((.lt (.var 1) (.lit 1)), false), ((.lt (.lit 60) (.var 1)), false), ((.lt (.var 2) (.lit 1)), false), ((.lt (.add (.var 1) (.lit 1)) (.var 2)), false), ((.lt (.add (.var 0) (.var 1)) (.len (.var 0))), true), ((.lt (.var 0) (.sub (.lit 65536) (.var 1))), true), ((.lt (.lit 100) (.len (.var 0))), false)]⟩,
  ⟨.exit 0, 1, ⟨[], [], [], [], [], [], [], []⟩, [((.lt (.wrap .u32 (.nth (.take (.gl 0 (.app 22 (.var 0) (.var 0) (.var 0) (.var 1) (.var 2) (.add (.var 1) (.lit 1)) (.var 0)) (.lit 0) (.lit 0)) (.len (.var 0))) (.var 0))) (.lit 1)), true), ((.eq (.len (.gl 0 (.app 22 (.var 0) (.var 0) (.var 0) (.var 1) (.var 2) (.add (.var 1) (.lit 1)) (.var 0)) (.lit 0) (.lit 0))) (.len (.var 0))), true), ((.lt (.var 0) (.lit 0)), false), ((.lt (.var 1) (.lit 1)), false), ((.lt (.lit 60) (.var 1)), false), ((.lt (.var 2) (.lit 1)), false), ((.lt (.add (.var 1) (.lit 1)) (.var 2)), false), ((.lt (.add (.var 0) (.var 1)) (.len (.var 0))), true), ((.lt (.var 0) (.sub (.lit 65536) (.var 1))), true), ((.lt (.lit 100) (.len (.var 0))), false)]⟩]
def sumsIf : List SumT := [
  ⟨.ret, 2, ⟨[], [], [], [], [], [], [], []⟩, [((.lt (.nth (.var (nIf + 2)) (.var (nIf + 0))) (.lit 1)), false), ((.lt (.var (nIf + 0)) (.lit 1)), false), ((.lt (.var (nIf + 0)) (.lit 0)), false), ((.lt (.var 1) (.var (nIf + 0))), false), ((.lt (.lit 100) (.len (.var (nIf + 1)))), false), ((.eq (.len (.var (nIf + 2))) (.add (.var 1) (.lit 1))), true), ((.eq (.len (.gl 0 (.app 22 (.var 0) (.var 0) (.var 0) (.var 1) (.var 2) (.add (.var 1) (.lit 1)) (.var 0)) (.lit 0) (.lit 0))) (.len (.var 0))), true), ((.lt (.var 0) (.lit 0)), false), ((.lt (.var 1) (.lit 1)), false), ((.lt (.lit 60) (.var 1)), false), ((.lt (.var 2) (.lit 1)), false), ((.lt (.add (.var 1) (.lit 1)) (.var 2)), false), ((.lt (.add (.var 0) (.var 1)) (.len (.var 0))), true), ((.lt (.var 0) (.sub (.lit 65536) (.var 1))), true), ((.lt (.lit 100) (.len (.var 0))), false)]⟩,
  ⟨.bad, 0, ⟨[], [], [], [], [], [], [], []⟩, [((.lt (.add (.var 0) (.var (nIf + 0))) (.len (.var 0))), false), ((.lt (.nth (.var (nIf + 2)) (.var (nIf + 0))) (.lit 1)), true), ((.lt (.var (nIf + 0)) (.lit 1)), false), ((.lt (.var (nIf + 0)) (.lit 0)), false), ((.lt (.var 1) (.var (nIf + 0))), false), ((.lt (.lit 100) (.len (.var (nIf + 1)))), false), ((.eq (.len (.var (nIf + 2))) (.add (.var 1) (.lit 1))), true), ((.eq (.len (.gl 0 (.app 22 (.var 0) (.var 0) (.var 0) (.var 1) (.var 2) (.add (.var 1) (.lit 1)) (.var 0)) (.lit 0) (.lit 0))) (.len (.var 0))), true), ((.lt (.var 0) (.lit 0)), false), ((.lt (.var 1) (.lit 1)), false), ((.lt (.lit 60) (.var 1)), false), ((.lt (.var 2) (.lit 1)), false), ((.lt (.add (.var 1) (.lit 1)) (.var 2)), false), ((.lt (.add (.var 0) (.var 1)) (.len (.var 0))), true), ((.lt (.var 0) (.sub (.lit 65536) (.var 1))), true), ((.lt (.lit 100) (.len (.var 0))), false)]⟩,
  ⟨.normal, 0, ⟨[((nIf + 1), 5260135901548373507240989938184872167596213953876545866774076723762615537624279825255787426394609121738222744071473766080018802523285236618544732993614454383043364974644712387262571779035753793006612183414472704)], [(0, (.wrap .u32 (.nth (.take (.gl 0 (.app 22 (.var 0) (.var 0) (.var 0) (.var 1) (.var 2) (.add (.var 1) (.lit 1)) (.var 0)) (.lit 0) (.lit 0)) (.len (.var 0))) (.add (.var 0) (.var (nIf + 0)))))), (1, (.var 5260135901548373507240989938184872167596213953876545866774076723762615537624279825255787426394609121738222744071473766080018802523285236618544732993614454383043364974644712387262571779035753793006612183414472704))], [(1, (.app (.var (nIf + 1)) (.cons (.var (nIf + 0)) .nil))), (2, (.set (.var (nIf + 2)) (.var (nIf + 0)) (.lit 1)))], [], [((.add (.len (.var (nIf + 1))) (.lit 1)), (.len (.var (nIf + 1))))], [], [], []⟩, [((.lt (.add (.var 0) (.var (nIf + 0))) (.len (.var 0))), true), ((.lt (.nth (.var (nIf + 2)) (.var (nIf + 0))) (.lit 1)), true), ((.lt (.var (nIf + 0)) (.lit 1)), false), ((.lt (.var (nIf + 0)) (.lit 0)), false), ((.lt (.var 1) (.var (nIf + 0))), false), ((.lt (.lit 100) (.len (.var (nIf + 1)))), false), ((.eq (.len (.var (nIf + 2))) (.add (.var 1) (.lit 1))), true), ((.eq (.len (.gl 0 (.app 22 (.var 0) (.var 0) (.var 0) (.var 1) (.var 2) (.add (.var 1) (.lit 1)) (.var 0)) (.lit 0) (.lit 0))) (.len (.var 0))), true), ((.lt (.var 0) (.lit 0)), false), ((.lt (.var 1) (.lit 1)), false), ((.lt (.lit 60) (.var 1)), false), ((.lt (.var 2) (.lit 1)), false), ((.lt (.add (.var 1) (.lit 1)) (.var 2)), false), ((.lt (.add (.var 0) (.var 1)) (.len (.var 0))), true), ((.lt (.var 0) (.sub (.lit 65536) (.var 1))), true), ((.lt (.lit 100) (.len (.var 0))), false)]⟩,
  ⟨.exit 0, 0, ⟨[((nIf + 1), (nIf + 1))], [(1, (.var (nIf + 1)))], [], [], [((.len (.var (nIf + 1))), (.len (.gl 0 (.app 47 (.var 0) (.var 0) (.var 2) (.add (.var 1) (.lit 1)) (.lit 0) (.lit 0) .nil) (.lit 0) (.lit 0))))], [((.var (nIf + 1)), (.gl 0 (.app 47 (.var 0) (.var 0) (.var 2) (.add (.var 1) (.lit 1)) (.lit 0) (.lit 0) .nil) (.lit 0) (.lit 0)))], [], []⟩, [((.lt (.var (nIf + 0)) (.lit 1)), true), ((.lt (.var (nIf + 0)) (.lit 0)), false), ((.lt (.var 1) (.var (nIf + 0))), false), ((.lt (.lit 100) (.len (.var (nIf + 1)))), false), ((.eq (.len (.var (nIf + 2))) (.add (.var 1) (.lit 1))), true), ((.eq (.len (.gl 0 (.app 22 (.var 0) (.var 0) (.var 0) (.var 1) (.var 2) (.add (.var 1) (.lit 1)) (.var 0)) (.lit 0) (.lit 0))) (.len (.var 0))), true), ((.lt (.var 0) (.lit 0)), false), ((.lt (.var 1) (.lit 1)), false), ((.lt (.lit 60) (.var 1)), false), ((.lt (.var 2) (.lit 1)), false), ((.lt (.add (.var 1) (.lit 1)) (.var 2)), false), ((.lt (.add (.var 0) (.var 1)) (.len (.var 0))), true), ((.lt (.var 0) (.sub (.lit 65536) (.var 1))), true), ((.lt (.lit 100) (.len (.var 0))), false)]⟩]
def ouIf : List CLeaf := [
  ⟨false, (.tup [(.sl (nIf + 1) (.lit 0) (.len (.gl 0 (.app 47 (.var 0) (.var 0) (.var 2) (.add (.var 1) (.lit 1)) (.lit 0) (.lit 0) .nil) (.lit 0) (.lit 0))) (.var (nIf + 1))), (.int .i64 (.lit 0))]), [((.lt (.var 1) (.var 2)), false), ((.eq (.len (.gl 0 (.app 22 (.var 0) (.var 0) (.var 0) (.var 1) (.var 2) (.add (.var 1) (.lit 1)) (.var 0)) (.lit 0) (.lit 0))) (.len (.var 0))), true), ((.lt (.var 0) (.lit 0)), false), ((.lt (.var 1) (.lit 1)), false), ((.lt (.lit 60) (.var 1)), false), ((.lt (.var 2) (.lit 1)), false), ((.lt (.add (.var 1) (.lit 1)) (.var 2)), false), ((.lt (.add (.var 0) (.var 1)) (.len (.var 0))), true), ((.lt (.var 0) (.sub (.lit 65536) (.var 1))), true), ((.lt (.lit 100) (.len (.var 0))), false)], [(0, (.cells [(.sl 1 (.lit 0) (.len (.var 0)) (.var 3))] 105 true)), (1, (.row .u64 (.gl 0 (.app 22 (.var 0) (.var 0) (.var 0) (.var 1) (.var 2) (.add (.var 1) (.lit 1)) (.var 0)) (.lit 0) (.lit 0)) (.var 3) 53)), ((nIf + 1), (.row .i64 (.gl 0 (.app 47 (.var 0) (.var 0) (.var 2) (.add (.var 1) (.lit 1)) (.lit 0) (.lit 0) .nil) (.lit 0) (.lit 0)) (.var (nIf + 1)) 3))]⟩,
  ⟨false, (.tup [.nilSl, (.int .i64 (.lit 0))]), [((.lt (.var 1) (.var 2)), true), ((.eq (.len (.gl 0 (.app 22 (.var 0) (.var 0) (.var 0) (.var 1) (.var 2) (.add (.var 1) (.lit 1)) (.var 0)) (.lit 0) (.lit 0))) (.len (.var 0))), true), ((.lt (.var 0) (.lit 0)), false), ((.lt (.var 1) (.lit 1)), false), ((.lt (.lit 60) (.var 1)), false), ((.lt (.var 2) (.lit 1)), false), ((.lt (.add (.var 1) (.lit 1)) (.var 2)), false), ((.lt (.add (.var 0) (.var 1)) (.len (.var 0))), true), ((.lt (.var 0) (.sub (.lit 65536) (.var 1))), true), ((.lt (.lit 100) (.len (.var 0))), false)], [(0, (.cells [(.sl 1 (.lit 0) (.len (.var 0)) (.var 3))] 105 true)), (1, (.row .u64 (.gl 0 (.app 22 (.var 0) (.var 0) (.var 0) (.var 1) (.var 2) (.add (.var 1) (.lit 1)) (.var 0)) (.lit 0) (.lit 0)) (.var 3) 53))]⟩,
  ⟨false, (.tup [.nilSl, (.int .i64 (.lit 9))]), [((.lit false), true), ((.eq (.len (.gl 0 (.app 22 (.var 0) (.var 0) (.var 0) (.var 1) (.var 2) (.add (.var 1) (.lit 1)) (.var 0)) (.lit 0) (.lit 0))) (.len (.var 0))), true), ((.lt (.var 0) (.lit 0)), false), ((.lt (.var 1) (.lit 1)), false), ((.lt (.lit 60) (.var 1)), false), ((.lt (.var 2) (.lit 1)), false), ((.lt (.add (.var 1) (.lit 1)) (.var 2)), false), ((.lt (.add (.var 0) (.var 1)) (.len (.var 0))), true), ((.lt (.var 0) (.sub (.lit 65536) (.var 1))), true), ((.lt (.lit 100) (.len (.var 0))), false)], [(0, (.cells [(.sl 1 (.lit 0) (.len (.var 0)) (.var 3))] 105 true)), (1, (.row .u64 (.gl 0 (.app 22 (.var 0) (.var 0) (.var 0) (.var 1) (.var 2) (.add (.var 1) (.lit 1)) (.var 0)) (.lit 0) (.lit 0)) (.var 3) 53))]⟩]
theorem oIf_ok : OOK Try.prog (oIf Try.prog) inM := pruned_ok pr (opSliceU_ok (opBool_ok (opLoadS_ok (opAppendW_ok (opSliceT_ok noOrac_ok)))))
theorem pcIf_eq : (eIf Try.prog).pc = pcIf := by kernel_rfl
theorem avIf : pav nIf (nIf + 64) pcIf = true := by kernel_rfl
theorem b0If : body0If Try.prog = some sums0If := by kernel_rfl
theorem b1If : body1If Try.prog = some sumsIf := by kernel_rfl
theorem oneIf : (loopsAt Try.prog fIf 8).length = 1 := by kernel_rfl
theorem runIf : runX Try.prog (oIfL Try.prog) fIf tIf.args tIf.pc tIf.hp = some ouIf := by kernel_rfl
structure FactsIf (ν : Env Gh) : Prop where
  at0 : 0 ≤ ν.i 0
  n1 : 1 ≤ ν.i 1
  n2 : ν.i 1 ≤ 60
  f1 : 1 ≤ ν.i 2
  f2 : ν.i 2 ≤ ν.i 1 + 1
  room : ν.i 0 + ν.i 1 < (ν.l 0).length
  len : ((ν.l 0).length : Int) ≤ 100
theorem factsIf {ν : Env Gh} (h : pcDen ν pcIf) : FactsIf ν := by
  have h1 := lt_den (pcAt h 1 rfl)
  have h2 := lt_den (pcAt h 2 rfl)
  have h3 := lt_den (pcAt h 3 rfl)
  have h4 := lt_den (pcAt h 4 rfl)
  have h5 := lt_den (pcAt h 5 rfl)
  have h6 := lt_den (pcAt h 6 rfl)
  have h8 := lt_den (pcAt h 8 rfl)
  simp only [SI.den, SL.den, Bool.false_eq_true, iff_false, iff_true] at h1 h2 h3 h4 h5 h6 h8
  exact ⟨by omega, by omega, by omega, by omega, by omega, by omega, by omega⟩
theorem x22 {ν : Env Gh} (hI : ν.I = inM) (a b c d : SI) (l : SL) : (SG.app 22 (.var 0) (.var 0) a b c d l).den ν = ghL (iG (l.den ν) (a.den ν) (b.den ν) (c.den ν) (d.den ν)) := by simp [SG.den, hI, inM]
theorem x47 {ν : Env Gh} (hI : ν.I = inM) (a b c d : SI) (l : SL) : (SG.app 47 (.var 0) (.var 0) a b c d l).den ν = ghL (upG (a.den ν) (b.den ν)) := by simp [SG.den, hI, inM, xga]
attribute [local irreducible] nmAt
theorem oIfL_ok : OOK Try.prog (oIfL Try.prog) inM := by
  have hb : ∀ {ν : Env Gh}, (∀ x ∈ bdIf Try.prog, x.1.den ν ≠ x.2) → pcDen ν pcIf := fun h => by unfold bdIf at h; rw [pcIf_eq] at h; exact bads_of h
  have hp : ∀ {ν : Env Gh} {x : Vals Gh}, pcDen ν pcIf → 0 ≤ x.i 0 → x.i 0 ≤ ν.i 1 → ((x.l 1).length : Int) ≤ 100 → ((x.l 2).length : Int) = ν.i 1 + 1 → pcDen (ν.at nIf x) (pIf Try.prog) := by
    intro ν x h h0 h1 h2 h3
    have rf : RF nIf ν x (ν.at nIf x) := RF.self rfl
    have r0 : (ν.at nIf x).i nIf = x.i 0 := rf.i 0 (by decide)
    have hold : pcDen (ν.at nIf x) pcIf := pcDen_agree (at_agree (ρ := fun _ => 0) (ρ' := fun _ => 0) (fun _ _ => rfl)) avIf h
    unfold pIf
    rw [pcIf_eq]
    refine pcDen_append (pcDen_cons (lt_of ?_) (pcDen_cons (lt_of ?_) (pcDen_cons (lt_of ?_) (pcDen_one ?_)))) hold
    · simp only [SI.den, r0, Bool.false_eq_true, iff_false]; omega
    · simp only [SI.den, r0, rf.io 1 (by decide), Bool.false_eq_true, iff_false]; omega
    · simp only [SI.den, SL.den, rf.l 1 (by decide), Bool.false_eq_true, iff_false]; omega
    · simp only [SB.den, beq_iff_eq]
      simp only [SI.den, SL.den, rf.l 2 (by decide), rf.io 1 (by decide)]
      omega
  refine loopP_ok pr oIf_ok (rfl : nIf = nmAt 8) (by decide +kernel) oneIf (ghL []) b1If b0If
    (fun ν x => ∃ c, ν.i 2 < c ∧ c ≤ ν.i 1 + 1 ∧ x.i 0 = nextC (ν.i 1) c ∧ x.l 1 = upG (ν.i 2) c ∧ x.l 2 = onesG (ν.i 1 + 1) (ν.i 2) c)
    (fun ν x => (ν.i 1 + 1 - ν.i 2 - (x.l 1).length).toNat) (fun ν => (ν.i 1 + 2 - ν.i 2).toNat) ?_ ?_ oIf_ok
  · intro t ht ν ν2 hI h rf hpc
    have hp' := hb h
    obtain ⟨f0, f1, f2, f3, f4, f5, f6⟩ := factsIf hp'
    have qa : ν2.i 0 = ν.i 0 := rf.io 0 (by decide)
    have qn : ν2.i 1 = ν.i 1 := rf.io 1 (by decide)
    have qf : ν2.i 2 = ν.i 2 := rf.io 2 (by decide)
    have ql : ν2.l 0 = ν.l 0 := rf.lo 0 (by decide)
    have hI2 : ν2.I = inM := rf.I.trans hI
    have hT : List.take (ν.l 0).length (iG (ν.l 0) (ν.i 0) (ν.i 1) (ν.i 2) (ν.i 1 + 1)) = iG (ν.l 0) (ν.i 0) (ν.i 1) (ν.i 2) (ν.i 1 + 1) := List.take_of_length_le (by rw [iG_length]; omega)
    have hh := iG_head (l := ν.l 0) (N := ν.i 1) (f := ν.i 2) f0 (by omega)
    have hbd := nextC_bd (c := ν.i 2) f3 f1
    have hw := wrapU32 (nextC (ν.i 1) (ν.i 2)) (by omega) (by omega)
    simp only [sums0If, List.mem_cons, List.not_mem_nil, or_false] at ht
    rcases ht with rfl | rfl | rfl | rfl
    all_goals
      simp only [pcDen_cons_iff, pcDen_nil_iff, SB.den, decide_eq_true_eq, decide_eq_false_iff_not, beq_iff_eq] at hpc
      simp only [SI.den, SL.den, x22 hI2, hI2, inM_gl, ghL_l, Int.toNat_natCast, qa, qn, qf, ql, hT, hh, hw] at hpc
    any_goals (exfalso; omega)
    · have hf : nextC (ν.i 1) (ν.i 2) = ν.i 2 := by
        have := hpc.2.2.1
        unfold nextC at this ⊢; split at this
        · rw [if_pos (by omega)]
        · omega
      have hfN : ν.i 2 ≤ ν.i 1 := by unfold nextC at hf; split at hf <;> omega
      have hn := iG_node (l := ν.l 0) f0 f5 f3 (Int.le_refl _) hfN
      have hwf := wrapU32 (ν.i 2) (by omega) (by omega)
      have hbd2 := nextC_bd (N := ν.i 1) (c := ν.i 2 + 1) (by omega) f1
      have hw2 := wrapU32 (nextC (ν.i 1) (ν.i 2 + 1)) (by omega) (by omega)
      generalize hy : Mt.vals _ (ghL []) ν2 = y
      have y0 : y.i 0 = nextC (ν.i 1) (ν.i 2 + 1) := by
        rw [← hy]
        simp only [Mt.vals, lkp_cons, lkp_nil, Nat.reduceEqDiff, reduceIte, SI.den, SL.den, x22 hI2, hI2, inM_gl, ghL_l, Int.toNat_natCast, qa, qn, qf, ql, hT, hh, hw, hf, hwf, hn, hw2]
      have y1 : y.l 1 = [ν.i 2] := by
        rw [← hy]
        simp only [Mt.vals, lkp_cons, lkp_nil, Nat.reduceEqDiff, reduceIte, SI.den, SL.den, x22 hI2, hI2, inM_gl, ghL_l, Int.toNat_natCast, qa, qn, qf, ql, hT, hh, hw, hf, hwf]
      have y2 : y.l 2 = (List.replicate (ν.i 1 + 1).toNat 0).set (ν.i 2).toNat 1 := by
        rw [← hy]
        simp only [Mt.vals, lkp_cons, lkp_nil, Nat.reduceEqDiff, reduceIte, SI.den, SL.den, x22 hI2, hI2, inM_gl, ghL_l, Int.toNat_natCast, qa, qn, qf, ql, hT, hh, hw, hf, hwf]
      refine ⟨⟨ν.i 2 + 1, by omega, by omega, y0, ?_, ?_⟩, hp hp' (by rw [y0]; omega) (by rw [y0]; omega) (by rw [y1]; simp) (by rw [y2, List.length_set, List.length_replicate]; omega), by show _ < (ν.i 1 + 2 - ν.i 2).toNat; rw [y1]; simp only [List.length_cons, List.length_nil]; omega, ?_⟩
      · rw [y1, ← upG_step (Int.le_refl _), upG_self]; rfl
      · rw [y2, onesG_self _ (ν.i 2), onesG_set (by omega) (Int.le_refl _)]
      · constructor <;> simp [SI.den, SL.den, at_l, y1]
    · have hfN : ν.i 1 < ν.i 2 := by
        have := hpc.1
        unfold nextC at this; split at this <;> omega
      refine ⟨fun g hg => ?_, by constructor <;> simp⟩
      cases hg
      refine pcDen_one (lt_of ?_)
      have rf3 : ∀ y, RF nIf ν y (ν.at nIf y) := fun y => RF.self rfl
      simp only [SI.den, (rf3 _).io 1 (by decide), (rf3 _).io 2 (by decide), iff_true]
      exact hfN
  · intro t ht ν x ν2 hI h hJ _ rf hpc
    have hp' := hb h
    obtain ⟨f0, f1, f2, f3, f4, f5, f6⟩ := factsIf hp'
    obtain ⟨c, j0, j1, j2, j3, j4⟩ := hJ
    have q0 : ν2.i (nIf + 0) = x.i 0 := rf.i 0 (by decide)
    have q1 : ν2.l (nIf + 1) = x.l 1 := rf.l 1 (by decide)
    have q2 : ν2.l (nIf + 2) = x.l 2 := rf.l 2 (by decide)
    have qa : ν2.i 0 = ν.i 0 := rf.io 0 (by decide)
    have qn : ν2.i 1 = ν.i 1 := rf.io 1 (by decide)
    have qf : ν2.i 2 = ν.i 2 := rf.io 2 (by decide)
    have ql : ν2.l 0 = ν.l 0 := rf.lo 0 (by decide)
    have hI2 : ν2.I = inM := rf.I.trans hI
    have hT : List.take (ν.l 0).length (iG (ν.l 0) (ν.i 0) (ν.i 1) (ν.i 2) (ν.i 1 + 1)) = iG (ν.l 0) (ν.i 0) (ν.i 1) (ν.i 2) (ν.i 1 + 1) := List.take_of_length_le (by rw [iG_length]; omega)
    have hbd := nextC_bd (N := ν.i 1) (c := c) (by omega) f1
    have hlen : ((x.l 1).length : Int) = c - ν.i 2 := by rw [j3, upG_length]; omega
    have hlen2 : ((x.l 2).length : Int) = ν.i 1 + 1 := by rw [j4, onesG_length]; omega
    have hsee : 1 ≤ x.i 0 → (x.l 2).getD (x.i 0).toNat 0 = 0 := fun h1 => by
      have : x.i 0 = c := by rw [j2] at h1 ⊢; unfold nextC at h1 ⊢; split at h1 <;> omega
      rw [j4, this]; exact onesG_at (by omega) (Int.le_refl _)
    simp only [sumsIf, List.mem_cons, List.not_mem_nil, or_false] at ht
    rcases ht with rfl | rfl | rfl | rfl
    all_goals
      simp only [pcDen_cons_iff, pcDen_nil_iff, SB.den, decide_eq_true_eq, decide_eq_false_iff_not, beq_iff_eq] at hpc
      simp only [SI.den, SL.den, x22 hI2, hI2, inM_gl, ghL_l, Int.toNat_natCast, q0, q1, q2, qa, qn, qf, ql] at hpc
    · exfalso
      have := hsee (by omega)
      omega
    · show False
      omega
    · have hc : x.i 0 = c := by
        have h1 := hpc.2.2.1
        rw [j2] at h1 ⊢; unfold nextC at h1 ⊢; split at h1 <;> first | (rw [if_pos (by omega)]) | omega
      have hcN : c ≤ ν.i 1 := by rw [j2] at hc; unfold nextC at hc; split at hc <;> omega
      have hn := iG_node (l := ν.l 0) f0 f5 f3 (show ν.i 2 ≤ c by omega) hcN
      have hbd2 := nextC_bd (N := ν.i 1) (c := c + 1) (by omega) f1
      have hw2 := wrapU32 (nextC (ν.i 1) (c + 1)) (by omega) (by omega)
      generalize hy : Mt.vals _ (ghL []) ν2 = y
      have y0 : y.i 0 = nextC (ν.i 1) (c + 1) := by
        rw [← hy]
        simp only [Mt.vals, lkp_cons, lkp_nil, Nat.reduceEqDiff, reduceIte, SI.den, SL.den, x22 hI2, hI2, inM_gl, ghL_l, Int.toNat_natCast, q0, qa, qn, qf, ql, hT, hc, hn, hw2]
      have y1 : y.l 1 = x.l 1 ++ [c] := by
        rw [← hy]
        simp only [Mt.vals, lkp_cons, lkp_nil, Nat.reduceEqDiff, reduceIte, SI.den, SL.den, q0, q1, hc]
      have y2 : y.l 2 = (x.l 2).set c.toNat 1 := by
        rw [← hy]
        simp only [Mt.vals, lkp_cons, lkp_nil, Nat.reduceEqDiff, reduceIte, SI.den, SL.den, q0, q2, hc]
      refine ⟨⟨c + 1, by omega, by omega, y0, ?_, ?_⟩, hp hp' (by rw [y0]; omega) (by rw [y0]; omega) (by rw [y1, List.length_append]; simp only [List.length_cons, List.length_nil]; omega) (by rw [y2, List.length_set]; exact hlen2), ?_, ?_⟩
      · rw [y1, j3, upG_step (by omega)]
      · rw [y2, j4, onesG_set (by omega) (by omega)]
      · show (ν.i 1 + 1 - ν.i 2 - ((y.l 1).length : Int)).toNat < (ν.i 1 + 1 - ν.i 2 - ((x.l 1).length : Int)).toNat
        rw [y1, List.length_append]; simp only [List.length_cons, List.length_nil]; omega
      · constructor <;> simp [SI.den, SL.den, at_l, y1, q1]
    · have hc : c = ν.i 1 + 1 := by
        have h1 := hpc.1
        rw [j2] at h1; unfold nextC at h1; split at h1 <;> omega
      have rf3 : ∀ y, RF nIf ν y (ν.at nIf y) := fun y => RF.self rfl
      have e : ∀ y, (SL.gl 0 (.app 47 (.var 0) (.var 0) (.var 2) (.add (.var 1) (.lit 1)) (.lit 0) (.lit 0) .nil) (.lit 0) (.lit 0)).den (ν.at nIf y) = x.l 1 := by
        intro y
        simp only [SL.den, x47 ((rf3 _).I.trans hI), ((rf3 _).I.trans hI), inM_gl, ghL_l, SI.den, (rf3 _).io 1 (by decide), (rf3 _).io 2 (by decide)]
        rw [j3, hc]
      refine ⟨fun g hg => ?_, ?_⟩
      · cases hg
        refine pcDen_one (lt_of ?_)
        simp only [SI.den, (rf3 _).io 1 (by decide), (rf3 _).io 2 (by decide), Bool.false_eq_true, iff_false]
        omega
      · constructor
        · intro y hy
          simp only [List.mem_cons, List.not_mem_nil, or_false] at hy
          subst hy
          simp only [SI.den]
          rw [e]
          simp only [SL.den, q1]
        · intro y hy
          simp only [List.mem_cons, List.not_mem_nil, or_false] at hy
          subst hy
          simp only
          rw [e]
          simp only [SL.den, q1]
        · simp
        · simp
/-! in short -/
def lenU : SB := .eq (.len upL) (.sub (.add (.var 1) (.lit 1)) (.var 2))
def shIfL (c : CLeaf) : CLeaf := match c.v with
  | .tup [.sl _ _ _ _, _] => { c with pc := (lenU, true) :: c.pc }
  | _ => c
def shIf : List CLeaf := (ouIf.take 2).map shIfL
theorem shIf_ok : ∀ c ∈ ouIf, ∀ ν : Env Gh, ν.I = inM → pcDen ν c.pc → ∃ c' ∈ shIf, c'.bad = c.bad ∧ (∀ ρ, c'.v.den ν ρ = c.v.den ν ρ) ∧ c'.hp.Sublist c.hp ∧ pcDen ν c'.pc := by
  intro c hc ν hI hp
  simp only [ouIf, List.mem_cons, List.not_mem_nil, or_false] at hc
  rcases hc with rfl | rfl | rfl
  · have F := lt_den (pcAt hp 0 rfl)
    simp only [SI.den, Bool.false_eq_true, iff_false] at F
    refine ⟨_, List.mem_map.2 ⟨_, List.mem_of_getElem? (show (ouIf.take 2)[0]? = some _ from rfl), rfl⟩, rfl, fun _ => rfl, List.Sublist.refl _, pcDen_cons ?_ hp⟩
    simp only [lenU, upL, SB.den, beq_iff_eq]
    simp only [SI.den, SL.den, x47 hI, hI, inM_gl, ghL_l, upG_length]
    omega
  · exact ⟨_, List.mem_map.2 ⟨_, List.mem_of_getElem? (show (ouIf.take 2)[1]? = some _ from rfl), rfl⟩, rfl, fun _ => rfl, List.Sublist.refl _, hp⟩
  · have := pcAt hp 0 rfl
    simp [SB.den] at this
theorem arF_ok {O : Orac} (oo : OOK Try.prog O inM) : OOK Try.prog (O.withCallF fIf (sumK Try.prog tIf shIf)) inM := withCallF_ok oo (sum_okC pr oIfL_ok runIf shIf_ok oo)
end Go.Proofs.Ytlmenjenkpnacaa
end
