/- coachyardref06.Free on what Init leaves: its state, its loops' heads. -/
import Derived.Test.YtlmenjenkpnacaaLwXC
import Derived.Test.YtlmenjenkpnacaaSyL
import Derived.Test.YtlmenjenkpnacaaLwXA
set_option linter.unusedVariables false
set_option linter.unusedSimpArgs false

section
namespace Go.Proofs.Ytlmenjenkpnacaa
open Go Go.Sy Go.RowKit

def fIg : Nat := 23
def linkGm : SL := .gl 0 (.app 22 (.var 0) (.var 0) (.lit 0) (.var 0) (.var 1) manyR (.var 0)) (.lit 0) (.lit 0)
def hpIg : Heap := [(0, .row .u64 linkGm (.var 4) 53)]
def pcIg0 : PC := [(.eq (.len linkGm) manyR, true), (.lt (.var 0) (.lit 1), false), (.lt (.lit 60) (.var 0), false), (.lt (.var 1) (.lit 1), false), (.lt (.var 0) (.var 1), false)]
def tIg : Tmpl := ⟨[.sl 0 (.lit 0) (.len linkGm) (.var 4)], pcIg0, hpIg⟩
def nIg : Nat := nmAt 3
def nIh : Nat := nm2At 7
def oIg (P : Program) : Orac := (oSm P).pruned P
def eIg (P : Program) : Leaf := capN 0 (capAll P (oIg P) fIg 3 tIg.args tIg.pc tIg.hp)
def upR : SL := .gl 0 (.app 47 (.var 0) (.var 0) (.var 1) manyR (.lit 0) (.lit 0) .nil) (.lit 0) (.lit 0)
/-- of what was told, none is this one -/
def lessU : SB := .or (.eq (.var nIg) (.lit 0)) (.gb 0 (.app 45 (.var 0) (.var 0) (.lit 0) (.sub (.var nIg) (.lit 1)) (.lit 0) (.lit 0) (.var (nIg + 1))) (.lit 0) (.lit 0))
def hIg (P : Program) : Leaf := hdN nIg 4 1 .i64 3 (let L := eIg P
  { L with fr := (keepFr [0] L.fr).set 5 (.int .i64 (.var nIg)), hp := L.hp.filter fun x => Nat.ble x.1 0 })
def pIg (P : Program) : PC := [(.lt (.var nIg) (.lit 0), false), (.lt (.var 0) (.var nIg), false), (.lt (.var 0) (.len (.var (nIg + 1))), false), (lessU, true)] ++ (eIg P).pc
/-! the loop within -/
def eIh (P : Program) : Leaf := capN 0 (((codeX P (capt (oIg P) fIg 7) LO7 SZ7 fIg 6000 0 (loopAt P fIg 3) (hIg P).fr (pIg P) (hIg P).hp).getD []).filter is777)
def hIh (P : Program) : Leaf := let L := eIh P
  { L with fr := (keepFr [0, 4, 5] L.fr).set 6 (.int .i64 (.var nIh)) }
def pIh (P : Program) : PC := [(.lt (.var nIh) (.lit 0), false), (.lt (.lit 1000) (.var nIh), false)] ++ (eIh P).pc
def retIg (L : Leaf) : Tgt := ⟨.ret, ((keepFr [] L.fr).set 2 .nilSl).set 3 (.bool (.lit false)), L.hp.filter fun x => Nat.ble x.1 0, [(.lit false, true)]⟩
def gIh (P : Program) : List Tgt := [⟨.exit 2, keepFr [0, 4, 5] (eIh P).fr, (eIh P).hp, []⟩, retIg (eIh P)]
def sIh (P : Program) : Option (List SumT) := (codeX P (oIg P) LO8 SZ8 fIg 6000 0 (loopAt P fIg 7) (hIh P).fr (pIh P) (hIh P).hp).bind (sumsT P nIh LO8 SZ8 (⟨.normal, (hIh P).fr, (hIh P).hp, pIh P⟩ :: gIh P))
def oIh (P : Program) : Orac := (oIg P).withLoopF fIg 7 nIh (eIh P).fr (eIh P).hp (mkM nIh (gIh P) ((eIh P).pc.map fun x => (x.1, !x.2)))
/-! the loop around it -/
def gIg (P : Program) : List Tgt := let L := eIg P
  [⟨.exit 0, ((keepFr [] L.fr).set 4 (.sl (nIg + 1) (.lit 0) (.len upR) (.var (nIg + 1)))), hadd (nIg + 1) (.row .i64 upR (.var (nIg + 1)) 3) (L.hp.filter fun x => Nat.ble x.1 0), []⟩, retIg L]
def tgIg (P : Program) : List Tgt := ⟨.normal, (hIg P).fr, (hIg P).hp, pIg P⟩ :: gIg P
def bdIg (P : Program) : PC := (eIg P).pc.map fun x => (x.1, !x.2)
def body0Ig (P : Program) : Option (List SumT) := (codeX P (oIh P) LO7 SZ7 fIg 6000 0 (loopAt P fIg 3) (eIg P).fr ((bdIg P).map fun x => (x.1, !x.2)) (eIg P).hp).bind (sumsT P nIg LO7 SZ7 (tgIg P))
def body1Ig (P : Program) : Option (List SumT) := (codeX P (oIh P) LO7 SZ7 fIg 6000 0 (loopAt P fIg 3) (hIg P).fr (pIg P) (hIg P).hp).bind (sumsT P nIg LO7 SZ7 (tgIg P))
def oIgL (P : Program) : Orac := (oIg P).withLoop fIg 3 nIg (eIg P).fr (eIg P).hp (mkM nIg (gIg P) (bdIg P))
end Go.Proofs.Ytlmenjenkpnacaa
end

section
namespace Go.Proofs.Ytlmenjenkpnacaa
open Go Go.Sy Go.RowKit

def pcIg : PC := [((.eq (.len (.gl 0 (.app 22 (.var 0) (.var 0) (.lit 0) (.var 0) (.var 1) (.add (.var 0) (.lit 1)) (.var 0)) (.lit 0) (.lit 0))) (.add (.var 0) (.lit 1))), true), ((.lt (.var 0) (.lit 1)), false), ((.lt (.lit 60) (.var 0)), false), ((.lt (.var 1) (.lit 1)), false), ((.lt (.var 0) (.var 1)), false)]
def pcIh : PC := [((.lt (.var (nIg + 0)) (.lit 1)), false), ((.lt (.var (nIg + 0)) (.lit 0)), false), ((.lt (.var 0) (.var (nIg + 0))), false), ((.lt (.var 0) (.len (.var (nIg + 1)))), false), ((.or (.eq (.var (nIg + 0)) (.lit 0)) (.gb 0 (.app 45 (.var 0) (.var 0) (.lit 0) (.sub (.var (nIg + 0)) (.lit 1)) (.lit 0) (.lit 0) (.var (nIg + 1))) (.lit 0) (.lit 0))), true), ((.eq (.len (.gl 0 (.app 22 (.var 0) (.var 0) (.lit 0) (.var 0) (.var 1) (.add (.var 0) (.lit 1)) (.var 0)) (.lit 0) (.lit 0))) (.add (.var 0) (.lit 1))), true), ((.lt (.var 0) (.lit 1)), false), ((.lt (.lit 60) (.var 0)), false), ((.lt (.var 1) (.lit 1)), false), ((.lt (.var 0) (.var 1)), false)]
def startIh : Mt := ⟨[], [(0, (.lit 0))], [], [], [], [], [], []⟩
def sumsIh : List SumT := [
  ⟨.ret, 1, ⟨[], [], [], [], [], [], [], []⟩, [((.eq (.nth (.var (nIg + 1)) (.var (nIh + 0))) (.var (nIg + 0))), true), ((.lt (.var (nIh + 0)) (.len (.var (nIg + 1)))), true), ((.lt (.var (nIh + 0)) (.lit 0)), false), ((.lt (.lit 1000) (.var (nIh + 0))), false), ((.lt (.var (nIg + 0)) (.lit 1)), false), ((.lt (.var (nIg + 0)) (.lit 0)), false), ((.lt (.var 0) (.var (nIg + 0))), false), ((.lt (.var 0) (.len (.var (nIg + 1)))), false), ((.or (.eq (.var (nIg + 0)) (.lit 0)) (.gb 0 (.app 45 (.var 0) (.var 0) (.lit 0) (.sub (.var (nIg + 0)) (.lit 1)) (.lit 0) (.lit 0) (.var (nIg + 1))) (.lit 0) (.lit 0))), true), ((.eq (.len (.gl 0 (.app 22 (.var 0) (.var 0) (.lit 0) (.var 0) (.var 1) (.add (.var 0) (.lit 1)) (.var 0)) (.lit 0) (.lit 0))) (.add (.var 0) (.lit 1))), true), ((.lt (.var 0) (.lit 1)), false), ((.lt (.lit 60) (.var 0)), false), ((.lt (.var 1) (.lit 1)), false), ((.lt (.var 0) (.var 1)), false)]⟩,
  ⟨.normal, 0, ⟨[], [(0, (.add (.var (nIh + 0)) (.lit 1)))], [], [], [], [], [], []⟩, [((.eq (.nth (.var (nIg + 1)) (.var (nIh + 0))) (.var (nIg + 0))), false), ((.lt (.var (nIh + 0)) (.len (.var (nIg + 1)))), true), ((.lt (.var (nIh + 0)) (.lit 0)), false), ((.lt (.lit 1000) (.var (nIh + 0))), false), ((.lt (.var (nIg + 0)) (.lit 1)), false), ((.lt (.var (nIg + 0)) (.lit 0)), false), ((.lt (.var 0) (.var (nIg + 0))), false), ((.lt (.var 0) (.len (.var (nIg + 1)))), false), ((.or (.eq (.var (nIg + 0)) (.lit 0)) (.gb 0 (.app 45 (.var 0) (.var 0) (.lit 0) (.sub (.var (nIg + 0)) (.lit 1)) (.lit 0) (.lit 0) (.var (nIg + 1))) (.lit 0) (.lit 0))), true), ((.eq (.len (.gl 0 (.app 22 (.var 0) (.var 0) (.lit 0) (.var 0) (.var 1) (.add (.var 0) (.lit 1)) (.var 0)) (.lit 0) (.lit 0))) (.add (.var 0) (.lit 1))), true), ((.lt (.var 0) (.lit 1)), false), ((.lt (.lit 60) (.var 0)), false), ((.lt (.var 1) (.lit 1)), false), ((.lt (.var 0) (.var 1)), false)]⟩,
  ⟨.exit 2, 0, ⟨[], [], [], [], [], [], [], []⟩, [((.lt (.var (nIh + 0)) (.len (.var (nIg + 1)))), false), ((.lt (.var (nIh + 0)) (.lit 0)), false), ((.lt (.lit 1000) (.var (nIh + 0))), false), ((.lt (.var (nIg + 0)) (.lit 1)), false), ((.lt (.var (nIg + 0)) (.lit 0)), false), ((.lt (.var 0) (.var (nIg + 0))), false), ((.lt (.var 0) (.len (.var (nIg + 1)))), false), ((.or (.eq (.var (nIg + 0)) (.lit 0)) (.gb 0 (.app 45 (.var 0) (.var 0) (.lit 0) (.sub (.var (nIg + 0)) (.lit 1)) (.lit 0) (.lit 0) (.var (nIg + 1))) (.lit 0) (.lit 0))), true), ((.eq (.len (.gl 0 (.app 22 (.var 0) (.var 0) (.lit 0) (.var 0) (.var 1) (.add (.var 0) (.lit 1)) (.var 0)) (.lit 0) (.lit 0))) (.add (.var 0) (.lit 1))), true), ((.lt (.var 0) (.lit 1)), false), ((.lt (.lit 60) (.var 0)), false), ((.lt (.var 1) (.lit 1)), false), ((.lt (.var 0) (.var 1)), false)]⟩]
def sums0Ig : List SumT := [
  ⟨.ret, 1, ⟨[], [], [], [], [], [], [], []⟩, [((.lt (.wrap .u32 (.tmod (.nth (.gl 0 (.app 22 (.var 0) (.var 0) (.lit 0) (.var 0) (.var 1) (.add (.var 0) (.lit 1)) (.var 0)) (.lit 0) (.lit 0)) (.lit 0)) (.lit 4294967296))) (.add (.var 0) (.lit 1))), false), ((.lt (.wrap .u32 (.tmod (.nth (.gl 0 (.app 22 (.var 0) (.var 0) (.lit 0) (.var 0) (.var 1) (.add (.var 0) (.lit 1)) (.var 0)) (.lit 0) (.lit 0)) (.lit 0)) (.lit 4294967296))) (.lit 1)), false), ((.eq (.len (.gl 0 (.app 22 (.var 0) (.var 0) (.lit 0) (.var 0) (.var 1) (.add (.var 0) (.lit 1)) (.var 0)) (.lit 0) (.lit 0))) (.add (.var 0) (.lit 1))), true), ((.lt (.var 0) (.lit 1)), false), ((.lt (.lit 60) (.var 0)), false), ((.lt (.var 1) (.lit 1)), false), ((.lt (.var 0) (.var 1)), false)]⟩,
  ⟨.normal, 0, ⟨[((nIg + 1), 5260135901548373507240989929670066220252416403009084930479814041885075869062799306464698585869389552718935227659274901640561816643903173292155513591339604376298402042860845227660718293186208732426714640812081152)], [(0, (.wrap .u32 (.tmod (.nth (.gl 0 (.app 22 (.var 0) (.var 0) (.lit 0) (.var 0) (.var 1) (.add (.var 0) (.lit 1)) (.var 0)) (.lit 0) (.lit 0)) (.wrap .u32 (.tmod (.nth (.gl 0 (.app 22 (.var 0) (.var 0) (.lit 0) (.var 0) (.var 1) (.add (.var 0) (.lit 1)) (.var 0)) (.lit 0) (.lit 0)) (.lit 0)) (.lit 4294967296)))) (.lit 4294967296)))), (1, (.var 5260135901548373507240989929670066220252416403009084930479814041885075869062799306464698585869389552718935227659274901640561816643903173292155513591339604376298402042860845227660718293186208732426714640812081152))], [(1, (.cons (.wrap .u32 (.tmod (.nth (.gl 0 (.app 22 (.var 0) (.var 0) (.lit 0) (.var 0) (.var 1) (.add (.var 0) (.lit 1)) (.var 0)) (.lit 0) (.lit 0)) (.lit 0)) (.lit 4294967296))) .nil))], [], [((.lit 1), (.len (.var (nIg + 1))))], [], [], []⟩, [((.lt (.wrap .u32 (.tmod (.nth (.gl 0 (.app 22 (.var 0) (.var 0) (.lit 0) (.var 0) (.var 1) (.add (.var 0) (.lit 1)) (.var 0)) (.lit 0) (.lit 0)) (.lit 0)) (.lit 4294967296))) (.add (.var 0) (.lit 1))), true), ((.lt (.wrap .u32 (.tmod (.nth (.gl 0 (.app 22 (.var 0) (.var 0) (.lit 0) (.var 0) (.var 1) (.add (.var 0) (.lit 1)) (.var 0)) (.lit 0) (.lit 0)) (.lit 0)) (.lit 4294967296))) (.lit 1)), false), ((.eq (.len (.gl 0 (.app 22 (.var 0) (.var 0) (.lit 0) (.var 0) (.var 1) (.add (.var 0) (.lit 1)) (.var 0)) (.lit 0) (.lit 0))) (.add (.var 0) (.lit 1))), true), ((.lt (.var 0) (.lit 1)), false), ((.lt (.lit 60) (.var 0)), false), ((.lt (.var 1) (.lit 1)), false), ((.lt (.var 0) (.var 1)), false)]⟩,
  ⟨.exit 0, 0, ⟨[((nIg + 1), 4149515568884766920937229405043402705593434501133353821216073770119029017713153770562099197799189921013375545378842257557425914920311545892516799626746525121312614499445158919012352)], [(1, (.lit 0))], [], [], [((.lit 0), (.len (.gl 0 (.app 47 (.var 0) (.var 0) (.var 1) (.add (.var 0) (.lit 1)) (.lit 0) (.lit 0) .nil) (.lit 0) (.lit 0))))], [(.nil, (.gl 0 (.app 47 (.var 0) (.var 0) (.var 1) (.add (.var 0) (.lit 1)) (.lit 0) (.lit 0) .nil) (.lit 0) (.lit 0)))], [], []⟩, [((.lt (.wrap .u32 (.tmod (.nth (.gl 0 (.app 22 (.var 0) (.var 0) (.lit 0) (.var 0) (.var 1) (.add (.var 0) (.lit 1)) (.var 0)) (.lit 0) (.lit 0)) (.lit 0)) (.lit 4294967296))) (.lit 1)), true), ((.eq (.len (.gl 0 (.app 22 (.var 0) (.var 0) (.lit 0) (.var 0) (.var 1) (.add (.var 0) (.lit 1)) (.var 0)) (.lit 0) (.lit 0))) (.add (.var 0) (.lit 1))), true), ((.lt (.var 0) (.lit 1)), false), ((.lt (.lit 60) (.var 0)), false), ((.lt (.var 1) (.lit 1)), false), ((.lt (.var 0) (.var 1)), false)]⟩]
def sumsIg : List SumT := [
  ⟨.normal, 0, ⟨[((nIg + 1), 5260135901548373507240989929670066220252416403009084930479814041885075869062799306464698585869389552718935227659274901640561816643903173292155513591339604376298402042860845227660718293186208732426714640812081152)], [(0, (.wrap .u32 (.tmod (.nth (.gl 0 (.app 22 (.var 0) (.var 0) (.lit 0) (.var 0) (.var 1) (.add (.var 0) (.lit 1)) (.var 0)) (.lit 0) (.lit 0)) (.var (nIg + 0))) (.lit 4294967296)))), (1, (.var 5260135901548373507240989929670066220252416403009084930479814041885075869062799306464698585869389552718935227659274901640561816643903173292155513591339604376298402042860845227660718293186208732426714640812081152))], [(1, (.app (.var (nIg + 1)) (.cons (.var (nIg + 0)) .nil)))], [], [((.add (.len (.var (nIg + 1))) (.lit 1)), (.len (.var (nIg + 1))))], [], [], []⟩, [((.lt (.var (nIg + 0)) (.lit 1)), false), ((.lt (.var (nIg + 0)) (.lit 0)), false), ((.lt (.var 0) (.var (nIg + 0))), false), ((.lt (.var 0) (.len (.var (nIg + 1)))), false), ((.or (.eq (.var (nIg + 0)) (.lit 0)) (.gb 0 (.app 45 (.var 0) (.var 0) (.lit 0) (.sub (.var (nIg + 0)) (.lit 1)) (.lit 0) (.lit 0) (.var (nIg + 1))) (.lit 0) (.lit 0))), true), ((.eq (.len (.gl 0 (.app 22 (.var 0) (.var 0) (.lit 0) (.var 0) (.var 1) (.add (.var 0) (.lit 1)) (.var 0)) (.lit 0) (.lit 0))) (.add (.var 0) (.lit 1))), true), ((.lt (.var 0) (.lit 1)), false), ((.lt (.lit 60) (.var 0)), false), ((.lt (.var 1) (.lit 1)), false), ((.lt (.var 0) (.var 1)), false)]⟩,
  ⟨.ret, 1, ⟨[], [], [], [], [], [], [], []⟩, [((.lit false), true), ((.lt (.var (nIg + 0)) (.lit 1)), false), ((.lt (.var (nIg + 0)) (.lit 0)), false), ((.lt (.var 0) (.var (nIg + 0))), false), ((.lt (.var 0) (.len (.var (nIg + 1)))), false), ((.or (.eq (.var (nIg + 0)) (.lit 0)) (.gb 0 (.app 45 (.var 0) (.var 0) (.lit 0) (.sub (.var (nIg + 0)) (.lit 1)) (.lit 0) (.lit 0) (.var (nIg + 1))) (.lit 0) (.lit 0))), true), ((.eq (.len (.gl 0 (.app 22 (.var 0) (.var 0) (.lit 0) (.var 0) (.var 1) (.add (.var 0) (.lit 1)) (.var 0)) (.lit 0) (.lit 0))) (.add (.var 0) (.lit 1))), true), ((.lt (.var 0) (.lit 1)), false), ((.lt (.lit 60) (.var 0)), false), ((.lt (.var 1) (.lit 1)), false), ((.lt (.var 0) (.var 1)), false)]⟩,
  ⟨.exit 0, 0, ⟨[((nIg + 1), (nIg + 1))], [(1, (.var (nIg + 1)))], [], [], [((.len (.var (nIg + 1))), (.len (.gl 0 (.app 47 (.var 0) (.var 0) (.var 1) (.add (.var 0) (.lit 1)) (.lit 0) (.lit 0) .nil) (.lit 0) (.lit 0))))], [((.var (nIg + 1)), (.gl 0 (.app 47 (.var 0) (.var 0) (.var 1) (.add (.var 0) (.lit 1)) (.lit 0) (.lit 0) .nil) (.lit 0) (.lit 0)))], [], []⟩, [((.lt (.var (nIg + 0)) (.lit 1)), true), ((.lt (.var (nIg + 0)) (.lit 0)), false), ((.lt (.var 0) (.var (nIg + 0))), false), ((.lt (.var 0) (.len (.var (nIg + 1)))), false), ((.or (.eq (.var (nIg + 0)) (.lit 0)) (.gb 0 (.app 45 (.var 0) (.var 0) (.lit 0) (.sub (.var (nIg + 0)) (.lit 1)) (.lit 0) (.lit 0) (.var (nIg + 1))) (.lit 0) (.lit 0))), true), ((.eq (.len (.gl 0 (.app 22 (.var 0) (.var 0) (.lit 0) (.var 0) (.var 1) (.add (.var 0) (.lit 1)) (.var 0)) (.lit 0) (.lit 0))) (.add (.var 0) (.lit 1))), true), ((.lt (.var 0) (.lit 1)), false), ((.lt (.lit 60) (.var 0)), false), ((.lt (.var 1) (.lit 1)), false), ((.lt (.var 0) (.var 1)), false)]⟩]
def ouIg : List CLeaf := [
  ⟨false, (.tup [(.sl (nIg + 1) (.lit 0) (.len (.gl 0 (.app 47 (.var 0) (.var 0) (.var 1) (.add (.var 0) (.lit 1)) (.lit 0) (.lit 0) .nil) (.lit 0) (.lit 0))) (.var (nIg + 1))), (.bool (.lit true))]), [((.eq (.len (.gl 0 (.app 22 (.var 0) (.var 0) (.lit 0) (.var 0) (.var 1) (.add (.var 0) (.lit 1)) (.var 0)) (.lit 0) (.lit 0))) (.add (.var 0) (.lit 1))), true), ((.lt (.var 0) (.lit 1)), false), ((.lt (.lit 60) (.var 0)), false), ((.lt (.var 1) (.lit 1)), false), ((.lt (.var 0) (.var 1)), false)], [(0, (.row .u64 (.gl 0 (.app 22 (.var 0) (.var 0) (.lit 0) (.var 0) (.var 1) (.add (.var 0) (.lit 1)) (.var 0)) (.lit 0) (.lit 0)) (.var 4) 53)), ((nIg + 1), (.row .i64 (.gl 0 (.app 47 (.var 0) (.var 0) (.var 1) (.add (.var 0) (.lit 1)) (.lit 0) (.lit 0) .nil) (.lit 0) (.lit 0)) (.var (nIg + 1)) 3))]⟩,
  ⟨false, (.tup [.nilSl, (.bool (.lit false))]), [((.lit false), true), ((.eq (.len (.gl 0 (.app 22 (.var 0) (.var 0) (.lit 0) (.var 0) (.var 1) (.add (.var 0) (.lit 1)) (.var 0)) (.lit 0) (.lit 0))) (.add (.var 0) (.lit 1))), true), ((.lt (.var 0) (.lit 1)), false), ((.lt (.lit 60) (.var 0)), false), ((.lt (.var 1) (.lit 1)), false), ((.lt (.var 0) (.var 1)), false)], [(0, (.row .u64 (.gl 0 (.app 22 (.var 0) (.var 0) (.lit 0) (.var 0) (.var 1) (.add (.var 0) (.lit 1)) (.var 0)) (.lit 0) (.lit 0)) (.var 4) 53))]⟩]
theorem oIg_ok : OOK Try.prog (oIg Try.prog) inM := pruned_ok pr (opLoadS_ok (opAppendW_ok (opSliceT_ok noOrac_ok)))
theorem pcIg_eq : (eIg Try.prog).pc = pcIg := by kernel_rfl
theorem pcIh_eq : (eIh Try.prog).pc = pcIh := by kernel_rfl
theorem avIg : pav nIg (nIg + 64) pcIg = true := by kernel_rfl
theorem avIh : pav nIh (nIh + 64) pcIh = true := by kernel_rfl
theorem bIh : sIh Try.prog = some sumsIh := by kernel_rfl
theorem stIh : mAll nIh 0 0 Try.prog (eIh Try.prog).fr (eIh Try.prog).hp (hIh Try.prog).fr (hIh Try.prog).hp = some startIh := by kernel_rfl
theorem b0Ig : body0Ig Try.prog = some sums0Ig := by kernel_rfl
theorem b1Ig : body1Ig Try.prog = some sumsIg := by kernel_rfl
theorem oneIh : (loopsAt Try.prog fIg 7).length = 1 := by kernel_rfl
theorem oneIg : (loopsAt Try.prog fIg 3).length = 1 := by kernel_rfl
theorem runIg : runX Try.prog (oIgL Try.prog) fIg tIg.args tIg.pc tIg.hp = some ouIg := by kernel_rfl
theorem y22 {ν : Env Gh} (hI : ν.I = inM) (a b c d : SI) (l : SL) : (SG.app 22 (.var 0) (.var 0) a b c d l).den ν = ghL (iG (l.den ν) (a.den ν) (b.den ν) (c.den ν) (d.den ν)) := by simp [SG.den, hI, inM]
theorem y47 {ν : Env Gh} (hI : ν.I = inM) (a b c d : SI) (l : SL) : (SG.app 47 (.var 0) (.var 0) a b c d l).den ν = ghL (upG (a.den ν) (b.den ν)) := by simp [SG.den, hI, inM, xga]
theorem less_den {ν : Env Gh} (hI : ν.I = inM) : lessU.den ν = true ↔ (ν.i (nIg + 0) = 0 ∨ ∀ x ∈ ν.l (nIg + 1), 0 ≤ x ∧ x ≤ ν.i (nIg + 0) - 1) := by
  simp only [lessU, SB.den, SG.den, SI.den, SL.den, hI, inM, xga, Bool.or_eq_true, beq_iff_eq]
  simp
attribute [local irreducible] nmAt nm2At
theorem oIh_ok : OOK Try.prog (oIh Try.prog) inM := by
  refine withLoopF_ok oIg_ok ?_
  have hb : ∀ {ν : Env Gh}, (∀ x ∈ (eIh Try.prog).pc.map fun x => (x.1, !x.2), x.1.den ν ≠ x.2) → pcDen ν pcIh := fun h => by rw [pcIh_eq] at h; exact bads_of h
  have hp : ∀ {ν : Env Gh} {x : Vals Gh}, pcDen ν pcIh → 0 ≤ x.i 0 → x.i 0 ≤ 1000 → pcDen (ν.at nIh x) (pIh Try.prog) := by
    intro ν x h h0 h1
    have r0 : (ν.at nIh x).i nIh = x.i 0 := at_i (j := 0) (by decide)
    have hold : pcDen (ν.at nIh x) pcIh := pcDen_agree (at_agree (ρ := fun _ => 0) (ρ' := fun _ => 0) (fun _ _ => rfl)) avIh h
    unfold pIh
    rw [pcIh_eq]
    refine pcDen_append (pcDen_cons (lt_of ?_) (pcDen_one (lt_of ?_))) hold
    · simp only [SI.den, Bool.false_eq_true, iff_false]; rw [r0]; omega
    · simp only [SI.den, Bool.false_eq_true, iff_false]; rw [r0]; omega
  refine loopU_ok pr oIg_ok (fun h => nm2_small h) (fun h => nm2_big (by decide +kernel) h) (fun h => lo8_small h) oneIh (ghL []) bIh stIh
    (fun ν x => 0 ≤ x.i 0 ∧ x.i 0 ≤ 1000) (fun ν x => (1000 - x.i 0).toNat) ?_ ?_ oIg_ok
  · intro ν hI h
    have y0 : (startIh.vals (ghL []) ν).i 0 = 0 := by simp only [startIh, Mt.vals, lkp_cons, lkp_nil, Nat.reduceEqDiff, reduceIte, SI.den]
    exact ⟨⟨by omega, by omega⟩, hp (hb h) (by omega) (by omega), by constructor <;> simp [startIh]⟩
  · intro t ht ν x ν2 hI h hJ _ rf hpc
    have hp' := hb h
    obtain ⟨j0, j1⟩ := hJ
    have q0 : ν2.i (nIh + 0) = x.i 0 := rf.i 0 (by decide)
    have hI2 : ν2.I = inM := rf.I.trans hI
    simp only [sumsIh, List.mem_cons, List.not_mem_nil, or_false] at ht
    rcases ht with rfl | rfl | rfl
    · exfalso
      have c0 : (ν2.l (nIg + 1)).getD (ν2.i (nIh + 0)).toNat 0 = ν2.i (nIg + 0) := by
        have := pcAt hpc 0 rfl
        simp only [SB.den, beq_iff_eq] at this
        exact this
      have c1 := lt_den (pcAt hpc 1 rfl)
      have c4 := lt_den (pcAt hpc 4 rfl)
      have c8 := (less_den hI2).1 (pcAt hpc 8 rfl)
      simp only [SI.den, SL.den, Bool.false_eq_true, iff_false, iff_true] at c1 c4
      rcases c8 with c8 | c8
      · omega
      · have hk : (ν2.i (nIh + 0)).toNat < (ν2.l (nIg + 1)).length := by omega
        rw [List.getD_eq_getElem?_getD, List.getElem?_eq_getElem hk, Option.getD_some] at c0
        have := c8 _ (List.getElem_mem hk)
        omega
    · have c1 := lt_den (pcAt hpc 1 rfl)
      have c7 := lt_den (pcAt hpc 7 rfl)
      have c11 := lt_den (pcAt hpc 11 rfl)
      simp only [SI.den, SL.den, Bool.false_eq_true, iff_false, iff_true] at c1 c7 c11
      rw [q0] at c1
      generalize hy : Mt.vals _ (ghL []) ν2 = y
      have y0 : y.i 0 = x.i 0 + 1 := by rw [← hy]; simp only [Mt.vals, lkp_cons, lkp_nil, Nat.reduceEqDiff, reduceIte, SI.den, q0]
      refine ⟨⟨by omega, by omega⟩, hp hp' (by omega) (by omega), by show _ < (1000 - x.i 0).toNat; omega, by constructor <;> simp⟩
    · exact ⟨fun g hg => by cases hg; exact pcDen_nil _, by constructor <;> simp⟩
theorem factsIg {ν : Env Gh} (hI : ν.I = inM) (h : pcDen ν pcIg) : ((ν.l 0).length : Int) = ν.i 0 + 1 ∧ 1 ≤ ν.i 0 ∧ ν.i 0 ≤ 60 ∧ 1 ≤ ν.i 1 ∧ ν.i 1 ≤ ν.i 0 := by
  have h0 := pcAt h 0 rfl
  have h1 := lt_den (pcAt h 1 rfl)
  have h2 := lt_den (pcAt h 2 rfl)
  have h3 := lt_den (pcAt h 3 rfl)
  have h4 := lt_den (pcAt h 4 rfl)
  simp only [SB.den, beq_iff_eq] at h0
  simp only [SI.den, SL.den, y22 hI, hI, inM_gl, ghL_l, iG_length, Bool.false_eq_true, iff_false] at h0 h1 h2 h3 h4
  omega
theorem oIgL_ok : OOK Try.prog (oIgL Try.prog) inM := by
  have hb : ∀ {ν : Env Gh}, (∀ x ∈ bdIg Try.prog, x.1.den ν ≠ x.2) → pcDen ν pcIg := fun h => by unfold bdIg at h; rw [pcIg_eq] at h; exact bads_of h
  have hp : ∀ {ν : Env Gh} {x : Vals Gh}, ν.I = inM → pcDen ν pcIg → 0 ≤ x.i 0 → x.i 0 ≤ ν.i 0 → ((x.l 1).length : Int) ≤ ν.i 0 → (x.i 0 = 0 ∨ ∀ z ∈ x.l 1, 0 ≤ z ∧ z ≤ x.i 0 - 1) → pcDen (ν.at nIg x) (pIg Try.prog) := by
    intro ν x hI h h0 h1 h2 h3
    have rf : RF nIg ν x (ν.at nIg x) := RF.self rfl
    have r0 : (ν.at nIg x).i nIg = x.i 0 := rf.i 0 (by decide)
    have hold : pcDen (ν.at nIg x) pcIg := pcDen_agree (at_agree (ρ := fun _ => 0) (ρ' := fun _ => 0) (fun _ _ => rfl)) avIg h
    unfold pIg
    rw [pcIg_eq]
    refine pcDen_append (pcDen_cons (lt_of ?_) (pcDen_cons (lt_of ?_) (pcDen_cons (lt_of ?_) (pcDen_one ?_)))) hold
    · simp only [SI.den, r0, Bool.false_eq_true, iff_false]; omega
    · simp only [SI.den, r0, rf.io 0 (by decide), Bool.false_eq_true, iff_false]; omega
    · simp only [SI.den, SL.den, rf.l 1 (by decide), rf.io 0 (by decide), Bool.false_eq_true, iff_false]; omega
    · refine (less_den (rf.I.trans hI)).2 ?_
      rw [rf.i 0 (by decide), rf.l 1 (by decide)]
      exact h3
  refine loopP_ok pr oIh_ok (rfl : nIg = nmAt 3) (by decide +kernel) oneIg (ghL []) b1Ig b0Ig
    (fun ν x => ∃ c, ν.i 1 < c ∧ c ≤ ν.i 0 + 1 ∧ x.i 0 = nextC (ν.i 0) c ∧ x.l 1 = upG (ν.i 1) c)
    (fun ν x => (ν.i 0 + 1 - ν.i 1 - (x.l 1).length).toNat) (fun ν => (ν.i 0 + 2 - ν.i 1).toNat) ?_ ?_ oIg_ok
  · intro t ht ν ν2 hI h rf hpc
    have hp' := hb h
    obtain ⟨f0, f1, f2, f3, f4⟩ := factsIg hI hp'
    have qn : ν2.i 0 = ν.i 0 := rf.io 0 (by decide)
    have qf : ν2.i 1 = ν.i 1 := rf.io 1 (by decide)
    have ql : ν2.l 0 = ν.l 0 := rf.lo 0 (by decide)
    have hI2 : ν2.I = inM := rf.I.trans hI
    have hh : (iG (ν.l 0) 0 (ν.i 0) (ν.i 1) (ν.i 0 + 1)).getD (Int.toNat 0) 0 = ν.i 1 := by
      rw [iG_head (Int.le_refl _) (by omega)]; unfold nextC; rw [if_pos f4]
    have hn : (iG (ν.l 0) 0 (ν.i 0) (ν.i 1) (ν.i 0 + 1)).getD (ν.i 1).toNat 0 = nextC (ν.i 0) (ν.i 1 + 1) := by
      have := iG_node (l := ν.l 0) (a := 0) (N := ν.i 0) (f := ν.i 1) (c := ν.i 1) (Int.le_refl _) (by omega) f3 (Int.le_refl _) f4
      rwa [Int.zero_add] at this
    have hbd2 := nextC_bd (N := ν.i 0) (c := ν.i 1 + 1) (by omega) f1
    have hw1 := wrapU32 (ν.i 1) (by omega) (by omega)
    have ht1 : (ν.i 1).tmod 4294967296 = ν.i 1 := by rw [Int.tmod_eq_emod_of_nonneg (by omega)]; omega
    have hw2 := wrapU32 (nextC (ν.i 0) (ν.i 1 + 1)) (by omega) (by omega)
    have ht2 : (nextC (ν.i 0) (ν.i 1 + 1)).tmod 4294967296 = nextC (ν.i 0) (ν.i 1 + 1) := by rw [Int.tmod_eq_emod_of_nonneg (by omega)]; omega
    simp only [sums0Ig, List.mem_cons, List.not_mem_nil, or_false] at ht
    rcases ht with rfl | rfl | rfl
    all_goals
      simp only [pcDen_cons_iff, pcDen_nil_iff, SB.den, decide_eq_true_eq, decide_eq_false_iff_not, beq_iff_eq] at hpc
      simp only [SI.den, SL.den, y22 hI2, hI2, inM_gl, ghL_l, qn, qf, ql, hh, ht1, hw1] at hpc
    any_goals (exfalso; omega)
    generalize hy : Mt.vals _ (ghL []) ν2 = y
    have y0 : y.i 0 = nextC (ν.i 0) (ν.i 1 + 1) := by
      rw [← hy]
      simp only [Mt.vals, lkp_cons, lkp_nil, Nat.reduceEqDiff, reduceIte, SI.den, SL.den, y22 hI2, hI2, inM_gl, ghL_l, qn, qf, ql, hh, ht1, hw1, hn, ht2, hw2]
    have y1 : y.l 1 = [ν.i 1] := by
      rw [← hy]
      simp only [Mt.vals, lkp_cons, lkp_nil, Nat.reduceEqDiff, reduceIte, SI.den, SL.den, y22 hI2, hI2, inM_gl, ghL_l, qn, qf, ql, hh, ht1, hw1]
    have hnx : nextC (ν.i 0) (ν.i 1 + 1) = 0 ∨ nextC (ν.i 0) (ν.i 1 + 1) = ν.i 1 + 1 := by unfold nextC; split <;> simp
    refine ⟨⟨ν.i 1 + 1, by omega, by omega, y0, ?_⟩, hp hI hp' (by rw [y0]; omega) (by rw [y0]; omega) (by rw [y1]; simp only [List.length_cons, List.length_nil]; omega) ?_, by show _ < (ν.i 0 + 2 - ν.i 1).toNat; rw [y1]; simp only [List.length_cons, List.length_nil]; omega, ?_⟩
    · rw [y1, ← upG_step (Int.le_refl _), upG_self]; rfl
    · rw [y0, y1]
      rcases hnx with e | e
      · exact .inl e
      · refine .inr fun z hz => ?_
        simp only [List.mem_cons, List.not_mem_nil, or_false] at hz
        omega
    · constructor <;> simp [SI.den, SL.den, at_l, y1]
  · intro t ht ν x ν2 hI h hJ _ rf hpc
    have hp' := hb h
    obtain ⟨f0, f1, f2, f3, f4⟩ := factsIg hI hp'
    obtain ⟨c, j0, j1, j2, j3⟩ := hJ
    have q0 : ν2.i (nIg + 0) = x.i 0 := rf.i 0 (by decide)
    have q1 : ν2.l (nIg + 1) = x.l 1 := rf.l 1 (by decide)
    have qn : ν2.i 0 = ν.i 0 := rf.io 0 (by decide)
    have qf : ν2.i 1 = ν.i 1 := rf.io 1 (by decide)
    have ql : ν2.l 0 = ν.l 0 := rf.lo 0 (by decide)
    have hI2 : ν2.I = inM := rf.I.trans hI
    have hlen : ((x.l 1).length : Int) = c - ν.i 1 := by rw [j3, upG_length]; omega
    simp only [sumsIg, List.mem_cons, List.not_mem_nil, or_false] at ht
    rcases ht with rfl | rfl | rfl
    · have h1 := lt_den (pcAt hpc 0 rfl)
      simp only [SI.den, q0, Bool.false_eq_true, iff_false] at h1
      have hc : x.i 0 = c := by rw [j2] at h1 ⊢; unfold nextC at h1 ⊢; split at h1 <;> first | (rw [if_pos (by omega)]) | omega
      have hcN : c ≤ ν.i 0 := by rw [j2] at hc; unfold nextC at hc; split at hc <;> omega
      have hn : (iG (ν.l 0) 0 (ν.i 0) (ν.i 1) (ν.i 0 + 1)).getD c.toNat 0 = nextC (ν.i 0) (c + 1) := by
        have := iG_node (l := ν.l 0) (a := 0) (N := ν.i 0) (f := ν.i 1) (c := c) (Int.le_refl _) (by omega) f3 (by omega) hcN
        rwa [Int.zero_add] at this
      have hbd2 := nextC_bd (N := ν.i 0) (c := c + 1) (by omega) f1
      have hw2 := wrapU32 (nextC (ν.i 0) (c + 1)) (by omega) (by omega)
      have ht2 : (nextC (ν.i 0) (c + 1)).tmod 4294967296 = nextC (ν.i 0) (c + 1) := by rw [Int.tmod_eq_emod_of_nonneg (by omega)]; omega
      generalize hy : Mt.vals _ (ghL []) ν2 = y
      have y0 : y.i 0 = nextC (ν.i 0) (c + 1) := by
        rw [← hy]
        simp only [Mt.vals, lkp_cons, lkp_nil, Nat.reduceEqDiff, reduceIte, SI.den, SL.den, y22 hI2, hI2, inM_gl, ghL_l, q0, qn, qf, ql, hc, hn, ht2, hw2]
      have y1 : y.l 1 = x.l 1 ++ [c] := by
        rw [← hy]
        simp only [Mt.vals, lkp_cons, lkp_nil, Nat.reduceEqDiff, reduceIte, SI.den, SL.den, q0, q1, hc]
      have y1' : y.l 1 = upG (ν.i 1) (c + 1) := by rw [y1, j3, upG_step (by omega)]
      have hnx : nextC (ν.i 0) (c + 1) = 0 ∨ nextC (ν.i 0) (c + 1) = c + 1 := by unfold nextC; split <;> simp
      refine ⟨⟨c + 1, by omega, by omega, y0, y1'⟩, hp hI hp' (by rw [y0]; omega) (by rw [y0]; omega) (by rw [y1, List.length_append]; simp only [List.length_cons, List.length_nil]; omega) ?_, ?_, ?_⟩
      · rw [y0, y1']
        rcases hnx with e | e
        · exact .inl e
        · refine .inr fun z hz => ?_
          have := upG_mem hz
          omega
      · show (ν.i 0 + 1 - ν.i 1 - ((y.l 1).length : Int)).toNat < (ν.i 0 + 1 - ν.i 1 - ((x.l 1).length : Int)).toNat
        rw [y1, List.length_append]; simp only [List.length_cons, List.length_nil]; omega
      · constructor <;> simp [SI.den, SL.den, at_l, y1, q1]
    · exfalso
      have := pcAt hpc 0 rfl
      simp [SB.den] at this
    · have hc : c = ν.i 0 + 1 := by
        have h1 := lt_den (pcAt hpc 0 rfl)
        simp only [SI.den, q0, iff_true] at h1
        rw [j2] at h1; unfold nextC at h1; split at h1 <;> omega
      have rf3 : ∀ y, RF nIg ν y (ν.at nIg y) := fun y => RF.self rfl
      have e : ∀ y, (SL.gl 0 (.app 47 (.var 0) (.var 0) (.var 1) (.add (.var 0) (.lit 1)) (.lit 0) (.lit 0) .nil) (.lit 0) (.lit 0)).den (ν.at nIg y) = x.l 1 := by
        intro y
        simp only [SL.den, y47 ((rf3 _).I.trans hI), ((rf3 _).I.trans hI), inM_gl, ghL_l, SI.den, (rf3 _).io 0 (by decide), (rf3 _).io 1 (by decide)]
        rw [j3, hc]
      refine ⟨fun g hg => by cases hg; exact pcDen_nil _, ?_⟩
      constructor
      · intro y hy
        simp only [List.mem_cons, List.not_mem_nil, or_false] at hy
        subst hy
        simp only [SI.den]
        rw [e]
        simp only [SL.den, q1]
      · intro y hy
        simp only [List.mem_cons, List.not_mem_nil, or_false] at hy
        subst hy
        simp only
        rw [e]
        simp only [SL.den, q1]
      · simp
      · simp
/-! what cannot be left out -/
def shIg : List CLeaf := ouIg.take 1
theorem shIg_ok : ∀ c ∈ ouIg, ∀ ν : Env Gh, ν.I = inM → pcDen ν c.pc → ∃ c' ∈ shIg, c'.bad = c.bad ∧ (∀ ρ, c'.v.den ν ρ = c.v.den ν ρ) ∧ c'.hp.Sublist c.hp ∧ pcDen ν c'.pc := by
  intro c hc ν hI hp
  simp only [ouIg, List.mem_cons, List.not_mem_nil, or_false] at hc
  rcases hc with rfl | rfl
  · exact ⟨_, List.mem_of_getElem? (show shIg[0]? = some _ from rfl), rfl, fun _ => rfl, List.Sublist.refl _, hp⟩
  · have := pcAt hp 0 rfl
    simp [SB.den] at this
theorem arG_ok {O : Orac} (oo : OOK Try.prog O inM) : OOK Try.prog (O.withCallF fIg (sumK Try.prog tIg shIg)) inM := withCallF_ok oo (sum_okC pr oIgL_ok runIg shIg_ok oo)
end Go.Proofs.Ytlmenjenkpnacaa
end
