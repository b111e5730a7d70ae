/- lane.Row.All: its state, its loop's head. -/
import Derived.Test.YtlmenjenkpnacaaSyH
import Derived.Test.YtlmenjenkpnacaaLwXA
import Derived.Test.YtlmenjenkpnacaaSyL
set_option linter.unusedVariables false
set_option linter.unusedSimpArgs false

section
namespace Go.Proofs.Ytlmenjenkpnacaa
open Go Go.Sy Go.RowKit

def fLn : Nat := 39
def tLn : Tmpl := ⟨[.agg [.int .i64 (.var 0), .int .i64 (.var 1)], .ptr 0 (.lit 0)], [], [(0, .cells [.sl 1 (.lit 0) (.len (.var 0)) (.var 2)] 105 true), (1, .row .u64 (.var 0) (.var 2) 53)]⟩
def nLn : Nat := nmAt 11
def eLn (P : Program) : Leaf := capN 0 (capAll P noOrac fLn 11 tLn.args tLn.pc tLn.hp)
/-- top, and how many. -/
def topL : SI := .nth (.var 0) (.wrap .i64 (.add (.var 0) (.lit 1)))
def manyL : SI := .wrap .i64 (.wrap .u64 (.sub (.nth (.var 0) (.var 0)) (.nth (.var 0) (.wrap .i64 (.add (.var 0) (.lit 1))))))
def listL (at' size top many : SI) (l : SL) : SL := .gl 0 (.app 41 (.var 0) (.var 0) at' size top many l) (.lit 0) (.lit 0)
def hLn (P : Program) : Leaf := hdFrom 47 (hdD 12 (hdN nLn 11 2 .u64 53 (hdI nLn 46 0 (eLn P))))
/-- what is known at a round. -/
def pLn (P : Program) : PC := (.lt (.var nLn) (.lit 0), false) :: (.lt (.lit 300) (.var nLn), false) :: (.lt (.len (.var (nLn + 2))) (.lit 1000), true) :: (eLn P).pc
def xLn (P : Program) : Leaf := hdFrom 12 { hLn P with fr := (hLn P).fr.set 11 (.sl (nLn + 2) (.lit 0) (.len (listL (.var 0) (.var 1) topL manyL (.var 0))) (.var (nLn + 2))), hp := hset (nLn + 2) (.row .u64 (listL (.var 0) (.var 1) topL manyL (.var 0)) (.var (nLn + 2)) 53) (hLn P).hp }
def gLn (P : Program) : List Tgt := [⟨.exit 0, (xLn P).fr, (xLn P).hp, [(.lt (.lit 0) manyL, true)]⟩, ⟨.exit 0, (hdFrom 12 (eLn P)).fr, (eLn P).hp, [(.lt (.lit 0) manyL, false)]⟩]
def bLn (P : Program) : PC := (eLn P).pc.map fun x => (x.1, !x.2)
def body0L (P : Program) : Option (List Leaf) := codeX P noOrac LO7 SZ7 fLn 6000 0 (loopAt P fLn 11) (eLn P).fr ((bLn P).map fun x => (x.1, !x.2)) (eLn P).hp
def body1L (P : Program) : Option (List Leaf) := codeX P noOrac LO7 SZ7 fLn 6000 0 (loopAt P fLn 11) (hLn P).fr (pLn P) (hLn P).hp
def tgLn (P : Program) : List Tgt := ⟨.normal, (hLn P).fr, (hLn P).hp, pLn P⟩ :: gLn P
/-! what it says, in short -/
def manyLB : SB := .and (.not (.lt manyL (.lit 0))) (.not (.lt (.var 1) manyL))
def roomL : SB := .lt (.add (.add (.var 0) (.mul (.lit 2) (.var 1))) (.lit 1)) (.len (.var 0))
end Go.Proofs.Ytlmenjenkpnacaa
end

section
namespace Go.Proofs.Ytlmenjenkpnacaa
open Go Go.Sy Go.RowKit

def pcLn : PC := [((.lt (.var 1) (.wrap .i64 (.wrap .u64 (.sub (.nth (.var 0) (.var 0)) (.nth (.var 0) (.wrap .i64 (.add (.var 0) (.lit 1)))))))), false), ((.lt (.wrap .i64 (.wrap .u64 (.sub (.nth (.var 0) (.var 0)) (.nth (.var 0) (.wrap .i64 (.add (.var 0) (.lit 1))))))) (.lit 0)), false), ((.lt (.wrap .i64 (.add (.var 0) (.lit 1))) (.len (.var 0))), true), ((.lt (.wrap .i64 (.add (.var 0) (.lit 1))) (.lit 0)), false), ((.lt (.var 0) (.len (.var 0))), true), ((.lt (.len (.var 0)) (.lit 1099511627776)), true), ((.lt (.wrap .i64 (.add (.wrap .i64 (.add (.var 0) (.wrap .i64 (.mul (.lit 2) (.var 1))))) (.lit 1))) (.len (.var 0))), true), ((.lt (.var 0) (.wrap .i64 (.sub (.wrap .i64 (.sub (.lit 65536) (.wrap .i64 (.mul (.lit 2) (.var 1))))) (.lit 1)))), true), ((.lt (.var 0) (.lit 0)), false), ((.eq (.bits 0 .i64 (.var 1) (.wrap .i64 (.sub (.var 1) (.lit 1)))) (.lit 0)), true), ((.lt (.lit 256) (.var 1)), false), ((.lt (.var 1) (.lit 2)), false)]
def sums0Ln : List SumT := [
  ⟨.bad, 0, ⟨[], [], [], [], [], [], [], []⟩, [((.lt (.wrap .i64 (.add (.wrap .i64 (.add (.wrap .i64 (.add (.var 0) (.lit 2))) (.wrap .i64 (.mul (.lit 2) (.wrap .i64 (.bits 0 .u64 (.wrap .u64 (.nth (.var 0) (.wrap .i64 (.add (.var 0) (.lit 1))))) (.wrap .u64 (.wrap .i64 (.sub (.var 1) (.lit 1)))))))))) (.lit 1))) (.lit 0)), true), ((.lt (.lit 0) (.wrap .u64 (.wrap .i64 (.wrap .u64 (.sub (.nth (.var 0) (.var 0)) (.nth (.var 0) (.wrap .i64 (.add (.var 0) (.lit 1))))))))), true), ((.lt (.var 1) (.wrap .i64 (.wrap .u64 (.sub (.nth (.var 0) (.var 0)) (.nth (.var 0) (.wrap .i64 (.add (.var 0) (.lit 1)))))))), false), ((.lt (.wrap .i64 (.wrap .u64 (.sub (.nth (.var 0) (.var 0)) (.nth (.var 0) (.wrap .i64 (.add (.var 0) (.lit 1))))))) (.lit 0)), false), ((.lt (.wrap .i64 (.add (.var 0) (.lit 1))) (.len (.var 0))), true), ((.lt (.wrap .i64 (.add (.var 0) (.lit 1))) (.lit 0)), false), ((.lt (.var 0) (.len (.var 0))), true), ((.lt (.len (.var 0)) (.lit 1099511627776)), true), ((.lt (.wrap .i64 (.add (.wrap .i64 (.add (.var 0) (.wrap .i64 (.mul (.lit 2) (.var 1))))) (.lit 1))) (.len (.var 0))), true), ((.lt (.var 0) (.wrap .i64 (.sub (.wrap .i64 (.sub (.lit 65536) (.wrap .i64 (.mul (.lit 2) (.var 1))))) (.lit 1)))), true), ((.lt (.var 0) (.lit 0)), false), ((.eq (.bits 0 .i64 (.var 1) (.wrap .i64 (.sub (.var 1) (.lit 1)))) (.lit 0)), true), ((.lt (.lit 256) (.var 1)), false), ((.lt (.var 1) (.lit 2)), false)]⟩,
  ⟨.bad, 0, ⟨[], [], [], [], [], [], [], []⟩, [((.lt (.wrap .i64 (.add (.wrap .i64 (.add (.wrap .i64 (.add (.var 0) (.lit 2))) (.wrap .i64 (.mul (.lit 2) (.wrap .i64 (.bits 0 .u64 (.wrap .u64 (.nth (.var 0) (.wrap .i64 (.add (.var 0) (.lit 1))))) (.wrap .u64 (.wrap .i64 (.sub (.var 1) (.lit 1)))))))))) (.lit 1))) (.len (.var 0))), false), ((.lt (.wrap .i64 (.add (.wrap .i64 (.add (.wrap .i64 (.add (.var 0) (.lit 2))) (.wrap .i64 (.mul (.lit 2) (.wrap .i64 (.bits 0 .u64 (.wrap .u64 (.nth (.var 0) (.wrap .i64 (.add (.var 0) (.lit 1))))) (.wrap .u64 (.wrap .i64 (.sub (.var 1) (.lit 1)))))))))) (.lit 1))) (.lit 0)), false), ((.lt (.lit 0) (.wrap .u64 (.wrap .i64 (.wrap .u64 (.sub (.nth (.var 0) (.var 0)) (.nth (.var 0) (.wrap .i64 (.add (.var 0) (.lit 1))))))))), true), ((.lt (.var 1) (.wrap .i64 (.wrap .u64 (.sub (.nth (.var 0) (.var 0)) (.nth (.var 0) (.wrap .i64 (.add (.var 0) (.lit 1)))))))), false), ((.lt (.wrap .i64 (.wrap .u64 (.sub (.nth (.var 0) (.var 0)) (.nth (.var 0) (.wrap .i64 (.add (.var 0) (.lit 1))))))) (.lit 0)), false), ((.lt (.wrap .i64 (.add (.var 0) (.lit 1))) (.len (.var 0))), true), ((.lt (.wrap .i64 (.add (.var 0) (.lit 1))) (.lit 0)), false), ((.lt (.var 0) (.len (.var 0))), true), ((.lt (.len (.var 0)) (.lit 1099511627776)), true), ((.lt (.wrap .i64 (.add (.wrap .i64 (.add (.var 0) (.wrap .i64 (.mul (.lit 2) (.var 1))))) (.lit 1))) (.len (.var 0))), true), ((.lt (.var 0) (.wrap .i64 (.sub (.wrap .i64 (.sub (.lit 65536) (.wrap .i64 (.mul (.lit 2) (.var 1))))) (.lit 1)))), true), ((.lt (.var 0) (.lit 0)), false), ((.eq (.bits 0 .i64 (.var 1) (.wrap .i64 (.sub (.var 1) (.lit 1)))) (.lit 0)), true), ((.lt (.lit 256) (.var 1)), false), ((.lt (.var 1) (.lit 2)), false)]⟩,
  ⟨.normal, 0, ⟨[((nLn + 2), 5260135901548373507240989938284460541249357784880843655502664591386914247198098310855683202307184789212132539585066735254749293586201985897215951933991938008853247582033997383281306907525222156288248411982921728)], [(0, (.lit 1)), (2, (.var 5260135901548373507240989938284460541249357784880843655502664591386914247198098310855683202307184789212132539585066735254749293586201985897215951933991938008853247582033997383281306907525222156288248411982921728))], [(2, (.cons (.nth (.var 0) (.wrap .i64 (.add (.wrap .i64 (.add (.wrap .i64 (.add (.var 0) (.lit 2))) (.wrap .i64 (.mul (.lit 2) (.wrap .i64 (.bits 0 .u64 (.wrap .u64 (.nth (.var 0) (.wrap .i64 (.add (.var 0) (.lit 1))))) (.wrap .u64 (.wrap .i64 (.sub (.var 1) (.lit 1)))))))))) (.lit 1)))) .nil))], [], [((.lit 1), (.len (.var (nLn + 2))))], [], [], []⟩, [((.lt (.wrap .i64 (.add (.wrap .i64 (.add (.wrap .i64 (.add (.var 0) (.lit 2))) (.wrap .i64 (.mul (.lit 2) (.wrap .i64 (.bits 0 .u64 (.wrap .u64 (.nth (.var 0) (.wrap .i64 (.add (.var 0) (.lit 1))))) (.wrap .u64 (.wrap .i64 (.sub (.var 1) (.lit 1)))))))))) (.lit 1))) (.len (.var 0))), true), ((.lt (.wrap .i64 (.add (.wrap .i64 (.add (.wrap .i64 (.add (.var 0) (.lit 2))) (.wrap .i64 (.mul (.lit 2) (.wrap .i64 (.bits 0 .u64 (.wrap .u64 (.nth (.var 0) (.wrap .i64 (.add (.var 0) (.lit 1))))) (.wrap .u64 (.wrap .i64 (.sub (.var 1) (.lit 1)))))))))) (.lit 1))) (.lit 0)), false), ((.lt (.lit 0) (.wrap .u64 (.wrap .i64 (.wrap .u64 (.sub (.nth (.var 0) (.var 0)) (.nth (.var 0) (.wrap .i64 (.add (.var 0) (.lit 1))))))))), true), ((.lt (.var 1) (.wrap .i64 (.wrap .u64 (.sub (.nth (.var 0) (.var 0)) (.nth (.var 0) (.wrap .i64 (.add (.var 0) (.lit 1)))))))), false), ((.lt (.wrap .i64 (.wrap .u64 (.sub (.nth (.var 0) (.var 0)) (.nth (.var 0) (.wrap .i64 (.add (.var 0) (.lit 1))))))) (.lit 0)), false), ((.lt (.wrap .i64 (.add (.var 0) (.lit 1))) (.len (.var 0))), true), ((.lt (.wrap .i64 (.add (.var 0) (.lit 1))) (.lit 0)), false), ((.lt (.var 0) (.len (.var 0))), true), ((.lt (.len (.var 0)) (.lit 1099511627776)), true), ((.lt (.wrap .i64 (.add (.wrap .i64 (.add (.var 0) (.wrap .i64 (.mul (.lit 2) (.var 1))))) (.lit 1))) (.len (.var 0))), true), ((.lt (.var 0) (.wrap .i64 (.sub (.wrap .i64 (.sub (.lit 65536) (.wrap .i64 (.mul (.lit 2) (.var 1))))) (.lit 1)))), true), ((.lt (.var 0) (.lit 0)), false), ((.eq (.bits 0 .i64 (.var 1) (.wrap .i64 (.sub (.var 1) (.lit 1)))) (.lit 0)), true), ((.lt (.lit 256) (.var 1)), false), ((.lt (.var 1) (.lit 2)), false)]⟩,
  ⟨.exit 0, 1, ⟨[], [], [], [], [], [], [], []⟩, [((.lt (.lit 0) (.wrap .u64 (.wrap .i64 (.wrap .u64 (.sub (.nth (.var 0) (.var 0)) (.nth (.var 0) (.wrap .i64 (.add (.var 0) (.lit 1))))))))), false), ((.lt (.var 1) (.wrap .i64 (.wrap .u64 (.sub (.nth (.var 0) (.var 0)) (.nth (.var 0) (.wrap .i64 (.add (.var 0) (.lit 1)))))))), false), ((.lt (.wrap .i64 (.wrap .u64 (.sub (.nth (.var 0) (.var 0)) (.nth (.var 0) (.wrap .i64 (.add (.var 0) (.lit 1))))))) (.lit 0)), false), ((.lt (.wrap .i64 (.add (.var 0) (.lit 1))) (.len (.var 0))), true), ((.lt (.wrap .i64 (.add (.var 0) (.lit 1))) (.lit 0)), false), ((.lt (.var 0) (.len (.var 0))), true), ((.lt (.len (.var 0)) (.lit 1099511627776)), true), ((.lt (.wrap .i64 (.add (.wrap .i64 (.add (.var 0) (.wrap .i64 (.mul (.lit 2) (.var 1))))) (.lit 1))) (.len (.var 0))), true), ((.lt (.var 0) (.wrap .i64 (.sub (.wrap .i64 (.sub (.lit 65536) (.wrap .i64 (.mul (.lit 2) (.var 1))))) (.lit 1)))), true), ((.lt (.var 0) (.lit 0)), false), ((.eq (.bits 0 .i64 (.var 1) (.wrap .i64 (.sub (.var 1) (.lit 1)))) (.lit 0)), true), ((.lt (.lit 256) (.var 1)), false), ((.lt (.var 1) (.lit 2)), false)]⟩]
def sumsLn : List SumT := [
  ⟨.bad, 0, ⟨[], [], [], [], [], [], [], []⟩, [((.lt (.wrap .i64 (.add (.wrap .i64 (.add (.wrap .i64 (.add (.var 0) (.lit 2))) (.wrap .i64 (.mul (.lit 2) (.wrap .i64 (.bits 0 .u64 (.wrap .u64 (.add (.nth (.var 0) (.wrap .i64 (.add (.var 0) (.lit 1)))) (.var (nLn + 0)))) (.wrap .u64 (.wrap .i64 (.sub (.var 1) (.lit 1)))))))))) (.lit 1))) (.lit 0)), true), ((.lt (.var (nLn + 0)) (.wrap .u64 (.wrap .i64 (.wrap .u64 (.sub (.nth (.var 0) (.var 0)) (.nth (.var 0) (.wrap .i64 (.add (.var 0) (.lit 1))))))))), true), ((.lt (.var (nLn + 0)) (.lit 0)), false), ((.lt (.lit 300) (.var (nLn + 0))), false), ((.lt (.len (.var (nLn + 2))) (.lit 1000)), true), ((.lt (.var 1) (.wrap .i64 (.wrap .u64 (.sub (.nth (.var 0) (.var 0)) (.nth (.var 0) (.wrap .i64 (.add (.var 0) (.lit 1)))))))), false), ((.lt (.wrap .i64 (.wrap .u64 (.sub (.nth (.var 0) (.var 0)) (.nth (.var 0) (.wrap .i64 (.add (.var 0) (.lit 1))))))) (.lit 0)), false), ((.lt (.wrap .i64 (.add (.var 0) (.lit 1))) (.len (.var 0))), true), ((.lt (.wrap .i64 (.add (.var 0) (.lit 1))) (.lit 0)), false), ((.lt (.var 0) (.len (.var 0))), true), ((.lt (.len (.var 0)) (.lit 1099511627776)), true), ((.lt (.wrap .i64 (.add (.wrap .i64 (.add (.var 0) (.wrap .i64 (.mul (.lit 2) (.var 1))))) (.lit 1))) (.len (.var 0))), true), ((.lt (.var 0) (.wrap .i64 (.sub (.wrap .i64 (.sub (.lit 65536) (.wrap .i64 (.mul (.lit 2) (.var 1))))) (.lit 1)))), true), ((.lt (.var 0) (.lit 0)), false), ((.eq (.bits 0 .i64 (.var 1) (.wrap .i64 (.sub (.var 1) (.lit 1)))) (.lit 0)), true), ((.lt (.lit 256) (.var 1)), false), ((.lt (.var 1) (.lit 2)), false)]⟩,
  ⟨.bad, 0, ⟨[], [], [], [], [], [], [], []⟩, [((.lt (.wrap .i64 (.add (.wrap .i64 (.add (.wrap .i64 (.add (.var 0) (.lit 2))) (.wrap .i64 (.mul (.lit 2) (.wrap .i64 (.bits 0 .u64 (.wrap .u64 (.add (.nth (.var 0) (.wrap .i64 (.add (.var 0) (.lit 1)))) (.var (nLn + 0)))) (.wrap .u64 (.wrap .i64 (.sub (.var 1) (.lit 1)))))))))) (.lit 1))) (.len (.var 0))), false), ((.lt (.wrap .i64 (.add (.wrap .i64 (.add (.wrap .i64 (.add (.var 0) (.lit 2))) (.wrap .i64 (.mul (.lit 2) (.wrap .i64 (.bits 0 .u64 (.wrap .u64 (.add (.nth (.var 0) (.wrap .i64 (.add (.var 0) (.lit 1)))) (.var (nLn + 0)))) (.wrap .u64 (.wrap .i64 (.sub (.var 1) (.lit 1)))))))))) (.lit 1))) (.lit 0)), false), ((.lt (.var (nLn + 0)) (.wrap .u64 (.wrap .i64 (.wrap .u64 (.sub (.nth (.var 0) (.var 0)) (.nth (.var 0) (.wrap .i64 (.add (.var 0) (.lit 1))))))))), true), ((.lt (.var (nLn + 0)) (.lit 0)), false), ((.lt (.lit 300) (.var (nLn + 0))), false), ((.lt (.len (.var (nLn + 2))) (.lit 1000)), true), ((.lt (.var 1) (.wrap .i64 (.wrap .u64 (.sub (.nth (.var 0) (.var 0)) (.nth (.var 0) (.wrap .i64 (.add (.var 0) (.lit 1)))))))), false), ((.lt (.wrap .i64 (.wrap .u64 (.sub (.nth (.var 0) (.var 0)) (.nth (.var 0) (.wrap .i64 (.add (.var 0) (.lit 1))))))) (.lit 0)), false), ((.lt (.wrap .i64 (.add (.var 0) (.lit 1))) (.len (.var 0))), true), ((.lt (.wrap .i64 (.add (.var 0) (.lit 1))) (.lit 0)), false), ((.lt (.var 0) (.len (.var 0))), true), ((.lt (.len (.var 0)) (.lit 1099511627776)), true), ((.lt (.wrap .i64 (.add (.wrap .i64 (.add (.var 0) (.wrap .i64 (.mul (.lit 2) (.var 1))))) (.lit 1))) (.len (.var 0))), true), ((.lt (.var 0) (.wrap .i64 (.sub (.wrap .i64 (.sub (.lit 65536) (.wrap .i64 (.mul (.lit 2) (.var 1))))) (.lit 1)))), true), ((.lt (.var 0) (.lit 0)), false), ((.eq (.bits 0 .i64 (.var 1) (.wrap .i64 (.sub (.var 1) (.lit 1)))) (.lit 0)), true), ((.lt (.lit 256) (.var 1)), false), ((.lt (.var 1) (.lit 2)), false)]⟩,
  ⟨.bad, 0, ⟨[], [], [], [], [], [], [], []⟩, [((.lt (.add (.len (.var (nLn + 2))) (.lit 1)) (.lit 1099511627776)), false), ((.lt (.wrap .i64 (.add (.wrap .i64 (.add (.wrap .i64 (.add (.var 0) (.lit 2))) (.wrap .i64 (.mul (.lit 2) (.wrap .i64 (.bits 0 .u64 (.wrap .u64 (.add (.nth (.var 0) (.wrap .i64 (.add (.var 0) (.lit 1)))) (.var (nLn + 0)))) (.wrap .u64 (.wrap .i64 (.sub (.var 1) (.lit 1)))))))))) (.lit 1))) (.len (.var 0))), true), ((.lt (.wrap .i64 (.add (.wrap .i64 (.add (.wrap .i64 (.add (.var 0) (.lit 2))) (.wrap .i64 (.mul (.lit 2) (.wrap .i64 (.bits 0 .u64 (.wrap .u64 (.add (.nth (.var 0) (.wrap .i64 (.add (.var 0) (.lit 1)))) (.var (nLn + 0)))) (.wrap .u64 (.wrap .i64 (.sub (.var 1) (.lit 1)))))))))) (.lit 1))) (.lit 0)), false), ((.lt (.var (nLn + 0)) (.wrap .u64 (.wrap .i64 (.wrap .u64 (.sub (.nth (.var 0) (.var 0)) (.nth (.var 0) (.wrap .i64 (.add (.var 0) (.lit 1))))))))), true), ((.lt (.var (nLn + 0)) (.lit 0)), false), ((.lt (.lit 300) (.var (nLn + 0))), false), ((.lt (.len (.var (nLn + 2))) (.lit 1000)), true), ((.lt (.var 1) (.wrap .i64 (.wrap .u64 (.sub (.nth (.var 0) (.var 0)) (.nth (.var 0) (.wrap .i64 (.add (.var 0) (.lit 1)))))))), false), ((.lt (.wrap .i64 (.wrap .u64 (.sub (.nth (.var 0) (.var 0)) (.nth (.var 0) (.wrap .i64 (.add (.var 0) (.lit 1))))))) (.lit 0)), false), ((.lt (.wrap .i64 (.add (.var 0) (.lit 1))) (.len (.var 0))), true), ((.lt (.wrap .i64 (.add (.var 0) (.lit 1))) (.lit 0)), false), ((.lt (.var 0) (.len (.var 0))), true), ((.lt (.len (.var 0)) (.lit 1099511627776)), true), ((.lt (.wrap .i64 (.add (.wrap .i64 (.add (.var 0) (.wrap .i64 (.mul (.lit 2) (.var 1))))) (.lit 1))) (.len (.var 0))), true), ((.lt (.var 0) (.wrap .i64 (.sub (.wrap .i64 (.sub (.lit 65536) (.wrap .i64 (.mul (.lit 2) (.var 1))))) (.lit 1)))), true), ((.lt (.var 0) (.lit 0)), false), ((.eq (.bits 0 .i64 (.var 1) (.wrap .i64 (.sub (.var 1) (.lit 1)))) (.lit 0)), true), ((.lt (.lit 256) (.var 1)), false), ((.lt (.var 1) (.lit 2)), false)]⟩,
  ⟨.normal, 0, ⟨[((nLn + 2), 5260135901548373507240989938284460541249357784880843655502664591386914247198098310855683202307184789212132539585066735254749293586201985897215951933991938008853247582033997383281306907525222156288248411982921728)], [(0, (.wrap .u64 (.add (.var (nLn + 0)) (.lit 1)))), (2, (.var 5260135901548373507240989938284460541249357784880843655502664591386914247198098310855683202307184789212132539585066735254749293586201985897215951933991938008853247582033997383281306907525222156288248411982921728))], [(2, (.app (.var (nLn + 2)) (.cons (.nth (.var 0) (.wrap .i64 (.add (.wrap .i64 (.add (.wrap .i64 (.add (.var 0) (.lit 2))) (.wrap .i64 (.mul (.lit 2) (.wrap .i64 (.bits 0 .u64 (.wrap .u64 (.add (.nth (.var 0) (.wrap .i64 (.add (.var 0) (.lit 1)))) (.var (nLn + 0)))) (.wrap .u64 (.wrap .i64 (.sub (.var 1) (.lit 1)))))))))) (.lit 1)))) .nil)))], [], [((.add (.len (.var (nLn + 2))) (.lit 1)), (.len (.var (nLn + 2))))], [], [], []⟩, [((.lt (.add (.len (.var (nLn + 2))) (.lit 1)) (.lit 1099511627776)), true), ((.lt (.wrap .i64 (.add (.wrap .i64 (.add (.wrap .i64 (.add (.var 0) (.lit 2))) (.wrap .i64 (.mul (.lit 2) (.wrap .i64 (.bits 0 .u64 (.wrap .u64 (.add (.nth (.var 0) (.wrap .i64 (.add (.var 0) (.lit 1)))) (.var (nLn + 0)))) (.wrap .u64 (.wrap .i64 (.sub (.var 1) (.lit 1)))))))))) (.lit 1))) (.len (.var 0))), true), ((.lt (.wrap .i64 (.add (.wrap .i64 (.add (.wrap .i64 (.add (.var 0) (.lit 2))) (.wrap .i64 (.mul (.lit 2) (.wrap .i64 (.bits 0 .u64 (.wrap .u64 (.add (.nth (.var 0) (.wrap .i64 (.add (.var 0) (.lit 1)))) (.var (nLn + 0)))) (.wrap .u64 (.wrap .i64 (.sub (.var 1) (.lit 1)))))))))) (.lit 1))) (.lit 0)), false), ((.lt (.var (nLn + 0)) (.wrap .u64 (.wrap .i64 (.wrap .u64 (.sub (.nth (.var 0) (.var 0)) (.nth (.var 0) (.wrap .i64 (.add (.var 0) (.lit 1))))))))), true), ((.lt (.var (nLn + 0)) (.lit 0)), false), ((.lt (.lit 300) (.var (nLn + 0))), false), ((.lt (.len (.var (nLn + 2))) (.lit 1000)), true), ((.lt (.var 1) (.wrap .i64 (.wrap .u64 (.sub (.nth (.var 0) (.var 0)) (.nth (.var 0) (.wrap .i64 (.add (.var 0) (.lit 1)))))))), false), ((.lt (.wrap .i64 (.wrap .u64 (.sub (.nth (.var 0) (.var 0)) (.nth (.var 0) (.wrap .i64 (.add (.var 0) (.lit 1))))))) (.lit 0)), false), ((.lt (.wrap .i64 (.add (.var 0) (.lit 1))) (.len (.var 0))), true), ((.lt (.wrap .i64 (.add (.var 0) (.lit 1))) (.lit 0)), false), ((.lt (.var 0) (.len (.var 0))), true), ((.lt (.len (.var 0)) (.lit 1099511627776)), true), ((.lt (.wrap .i64 (.add (.wrap .i64 (.add (.var 0) (.wrap .i64 (.mul (.lit 2) (.var 1))))) (.lit 1))) (.len (.var 0))), true), ((.lt (.var 0) (.wrap .i64 (.sub (.wrap .i64 (.sub (.lit 65536) (.wrap .i64 (.mul (.lit 2) (.var 1))))) (.lit 1)))), true), ((.lt (.var 0) (.lit 0)), false), ((.eq (.bits 0 .i64 (.var 1) (.wrap .i64 (.sub (.var 1) (.lit 1)))) (.lit 0)), true), ((.lt (.lit 256) (.var 1)), false), ((.lt (.var 1) (.lit 2)), false)]⟩,
  ⟨.exit 0, 0, ⟨[((nLn + 2), (nLn + 2))], [(2, (.var (nLn + 2)))], [], [], [((.len (.var (nLn + 2))), (.len (.gl 0 (.app 41 (.var 0) (.var 0) (.var 0) (.var 1) (.nth (.var 0) (.wrap .i64 (.add (.var 0) (.lit 1)))) (.wrap .i64 (.wrap .u64 (.sub (.nth (.var 0) (.var 0)) (.nth (.var 0) (.wrap .i64 (.add (.var 0) (.lit 1))))))) (.var 0)) (.lit 0) (.lit 0))))], [((.var (nLn + 2)), (.gl 0 (.app 41 (.var 0) (.var 0) (.var 0) (.var 1) (.nth (.var 0) (.wrap .i64 (.add (.var 0) (.lit 1)))) (.wrap .i64 (.wrap .u64 (.sub (.nth (.var 0) (.var 0)) (.nth (.var 0) (.wrap .i64 (.add (.var 0) (.lit 1))))))) (.var 0)) (.lit 0) (.lit 0)))], [], []⟩, [((.lt (.var (nLn + 0)) (.wrap .u64 (.wrap .i64 (.wrap .u64 (.sub (.nth (.var 0) (.var 0)) (.nth (.var 0) (.wrap .i64 (.add (.var 0) (.lit 1))))))))), false), ((.lt (.var (nLn + 0)) (.lit 0)), false), ((.lt (.lit 300) (.var (nLn + 0))), false), ((.lt (.len (.var (nLn + 2))) (.lit 1000)), true), ((.lt (.var 1) (.wrap .i64 (.wrap .u64 (.sub (.nth (.var 0) (.var 0)) (.nth (.var 0) (.wrap .i64 (.add (.var 0) (.lit 1)))))))), false), ((.lt (.wrap .i64 (.wrap .u64 (.sub (.nth (.var 0) (.var 0)) (.nth (.var 0) (.wrap .i64 (.add (.var 0) (.lit 1))))))) (.lit 0)), false), ((.lt (.wrap .i64 (.add (.var 0) (.lit 1))) (.len (.var 0))), true), ((.lt (.wrap .i64 (.add (.var 0) (.lit 1))) (.lit 0)), false), ((.lt (.var 0) (.len (.var 0))), true), ((.lt (.len (.var 0)) (.lit 1099511627776)), true), ((.lt (.wrap .i64 (.add (.wrap .i64 (.add (.var 0) (.wrap .i64 (.mul (.lit 2) (.var 1))))) (.lit 1))) (.len (.var 0))), true), ((.lt (.var 0) (.wrap .i64 (.sub (.wrap .i64 (.sub (.lit 65536) (.wrap .i64 (.mul (.lit 2) (.var 1))))) (.lit 1)))), true), ((.lt (.var 0) (.lit 0)), false), ((.eq (.bits 0 .i64 (.var 1) (.wrap .i64 (.sub (.var 1) (.lit 1)))) (.lit 0)), true), ((.lt (.lit 256) (.var 1)), false), ((.lt (.var 1) (.lit 2)), false)]⟩]
def ouLn : List CLeaf := [
  ⟨false, (.tup [.nilSl, (.int .i64 (.lit 2))]), [((.lt (.var 0) (.wrap .i64 (.sub (.wrap .i64 (.sub (.lit 65536) (.wrap .i64 (.mul (.lit 2) (.var 1))))) (.lit 1)))), false), ((.lt (.var 0) (.lit 0)), false), ((.eq (.bits 0 .i64 (.var 1) (.wrap .i64 (.sub (.var 1) (.lit 1)))) (.lit 0)), true), ((.lt (.lit 256) (.var 1)), false), ((.lt (.var 1) (.lit 2)), false)], [(0, (.cells [(.sl 1 (.lit 0) (.len (.var 0)) (.var 2))] 105 true)), (1, (.row .u64 (.var 0) (.var 2) 53))]⟩,
  ⟨false, (.tup [.nilSl, (.int .i64 (.lit 3))]), [((.lt (.wrap .i64 (.add (.wrap .i64 (.add (.var 0) (.wrap .i64 (.mul (.lit 2) (.var 1))))) (.lit 1))) (.len (.var 0))), false), ((.lt (.var 0) (.wrap .i64 (.sub (.wrap .i64 (.sub (.lit 65536) (.wrap .i64 (.mul (.lit 2) (.var 1))))) (.lit 1)))), true), ((.lt (.var 0) (.lit 0)), false), ((.eq (.bits 0 .i64 (.var 1) (.wrap .i64 (.sub (.var 1) (.lit 1)))) (.lit 0)), true), ((.lt (.lit 256) (.var 1)), false), ((.lt (.var 1) (.lit 2)), false)], [(0, (.cells [(.sl 1 (.lit 0) (.len (.var 0)) (.var 2))] 105 true)), (1, (.row .u64 (.var 0) (.var 2) 53))]⟩,
  ⟨true, (.tup []), [((.lt (.len (.var 0)) (.lit 1099511627776)), false), ((.lt (.wrap .i64 (.add (.wrap .i64 (.add (.var 0) (.wrap .i64 (.mul (.lit 2) (.var 1))))) (.lit 1))) (.len (.var 0))), true), ((.lt (.var 0) (.wrap .i64 (.sub (.wrap .i64 (.sub (.lit 65536) (.wrap .i64 (.mul (.lit 2) (.var 1))))) (.lit 1)))), true), ((.lt (.var 0) (.lit 0)), false), ((.eq (.bits 0 .i64 (.var 1) (.wrap .i64 (.sub (.var 1) (.lit 1)))) (.lit 0)), true), ((.lt (.lit 256) (.var 1)), false), ((.lt (.var 1) (.lit 2)), false)], []⟩,
  ⟨true, (.tup []), [((.lt (.var 0) (.len (.var 0))), false), ((.lt (.len (.var 0)) (.lit 1099511627776)), true), ((.lt (.wrap .i64 (.add (.wrap .i64 (.add (.var 0) (.wrap .i64 (.mul (.lit 2) (.var 1))))) (.lit 1))) (.len (.var 0))), true), ((.lt (.var 0) (.wrap .i64 (.sub (.wrap .i64 (.sub (.lit 65536) (.wrap .i64 (.mul (.lit 2) (.var 1))))) (.lit 1)))), true), ((.lt (.var 0) (.lit 0)), false), ((.eq (.bits 0 .i64 (.var 1) (.wrap .i64 (.sub (.var 1) (.lit 1)))) (.lit 0)), true), ((.lt (.lit 256) (.var 1)), false), ((.lt (.var 1) (.lit 2)), false)], []⟩,
  ⟨true, (.tup []), [((.lt (.wrap .i64 (.add (.var 0) (.lit 1))) (.lit 0)), true), ((.lt (.var 0) (.len (.var 0))), true), ((.lt (.len (.var 0)) (.lit 1099511627776)), true), ((.lt (.wrap .i64 (.add (.wrap .i64 (.add (.var 0) (.wrap .i64 (.mul (.lit 2) (.var 1))))) (.lit 1))) (.len (.var 0))), true), ((.lt (.var 0) (.wrap .i64 (.sub (.wrap .i64 (.sub (.lit 65536) (.wrap .i64 (.mul (.lit 2) (.var 1))))) (.lit 1)))), true), ((.lt (.var 0) (.lit 0)), false), ((.eq (.bits 0 .i64 (.var 1) (.wrap .i64 (.sub (.var 1) (.lit 1)))) (.lit 0)), true), ((.lt (.lit 256) (.var 1)), false), ((.lt (.var 1) (.lit 2)), false)], []⟩,
  ⟨true, (.tup []), [((.lt (.wrap .i64 (.add (.var 0) (.lit 1))) (.len (.var 0))), false), ((.lt (.wrap .i64 (.add (.var 0) (.lit 1))) (.lit 0)), false), ((.lt (.var 0) (.len (.var 0))), true), ((.lt (.len (.var 0)) (.lit 1099511627776)), true), ((.lt (.wrap .i64 (.add (.wrap .i64 (.add (.var 0) (.wrap .i64 (.mul (.lit 2) (.var 1))))) (.lit 1))) (.len (.var 0))), true), ((.lt (.var 0) (.wrap .i64 (.sub (.wrap .i64 (.sub (.lit 65536) (.wrap .i64 (.mul (.lit 2) (.var 1))))) (.lit 1)))), true), ((.lt (.var 0) (.lit 0)), false), ((.eq (.bits 0 .i64 (.var 1) (.wrap .i64 (.sub (.var 1) (.lit 1)))) (.lit 0)), true), ((.lt (.lit 256) (.var 1)), false), ((.lt (.var 1) (.lit 2)), false)], []⟩,
  ⟨false, (.tup [.nilSl, (.int .i64 (.lit 9))]), [((.lt (.wrap .i64 (.wrap .u64 (.sub (.nth (.var 0) (.var 0)) (.nth (.var 0) (.wrap .i64 (.add (.var 0) (.lit 1))))))) (.lit 0)), true), ((.lt (.wrap .i64 (.add (.var 0) (.lit 1))) (.len (.var 0))), true), ((.lt (.wrap .i64 (.add (.var 0) (.lit 1))) (.lit 0)), false), ((.lt (.var 0) (.len (.var 0))), true), ((.lt (.len (.var 0)) (.lit 1099511627776)), true), ((.lt (.wrap .i64 (.add (.wrap .i64 (.add (.var 0) (.wrap .i64 (.mul (.lit 2) (.var 1))))) (.lit 1))) (.len (.var 0))), true), ((.lt (.var 0) (.wrap .i64 (.sub (.wrap .i64 (.sub (.lit 65536) (.wrap .i64 (.mul (.lit 2) (.var 1))))) (.lit 1)))), true), ((.lt (.var 0) (.lit 0)), false), ((.eq (.bits 0 .i64 (.var 1) (.wrap .i64 (.sub (.var 1) (.lit 1)))) (.lit 0)), true), ((.lt (.lit 256) (.var 1)), false), ((.lt (.var 1) (.lit 2)), false)], [(0, (.cells [(.sl 1 (.lit 0) (.len (.var 0)) (.var 2))] 105 true)), (1, (.row .u64 (.var 0) (.var 2) 53)), (4149515568896103550252416028678955351642268946083712014345610154013554417347499047001293651546389103160031336445652464951572378283949016792918119262476010410940090581932032915406848, (.row .u64 (.var 0) (.var 4149515568896103550252416028678955351642268946083712014345610154013554417347499047001293651546389103160031336445652464951572378283949016792918119262476010410940090581932032915406848) 53))]⟩,
  ⟨false, (.tup [.nilSl, (.int .i64 (.lit 9))]), [((.lt (.var 1) (.wrap .i64 (.wrap .u64 (.sub (.nth (.var 0) (.var 0)) (.nth (.var 0) (.wrap .i64 (.add (.var 0) (.lit 1)))))))), true), ((.lt (.wrap .i64 (.wrap .u64 (.sub (.nth (.var 0) (.var 0)) (.nth (.var 0) (.wrap .i64 (.add (.var 0) (.lit 1))))))) (.lit 0)), false), ((.lt (.wrap .i64 (.add (.var 0) (.lit 1))) (.len (.var 0))), true), ((.lt (.wrap .i64 (.add (.var 0) (.lit 1))) (.lit 0)), false), ((.lt (.var 0) (.len (.var 0))), true), ((.lt (.len (.var 0)) (.lit 1099511627776)), true), ((.lt (.wrap .i64 (.add (.wrap .i64 (.add (.var 0) (.wrap .i64 (.mul (.lit 2) (.var 1))))) (.lit 1))) (.len (.var 0))), true), ((.lt (.var 0) (.wrap .i64 (.sub (.wrap .i64 (.sub (.lit 65536) (.wrap .i64 (.mul (.lit 2) (.var 1))))) (.lit 1)))), true), ((.lt (.var 0) (.lit 0)), false), ((.eq (.bits 0 .i64 (.var 1) (.wrap .i64 (.sub (.var 1) (.lit 1)))) (.lit 0)), true), ((.lt (.lit 256) (.var 1)), false), ((.lt (.var 1) (.lit 2)), false)], [(0, (.cells [(.sl 1 (.lit 0) (.len (.var 0)) (.var 2))] 105 true)), (1, (.row .u64 (.var 0) (.var 2) 53)), (4149515568896103550252416028678955351642268946083712014345610154013554417347499047001293651546389103160031336445652464951572378283949016792918119262476010410940090581932032915406848, (.row .u64 (.var 0) (.var 4149515568896103550252416028678955351642268946083712014345610154013554417347499047001293651546389103160031336445652464951572378283949016792918119262476010410940090581932032915406848) 53))]⟩,
  ⟨false, (.tup [(.sl (nLn + 2) (.lit 0) (.len (.gl 0 (.app 41 (.var 0) (.var 0) (.var 0) (.var 1) (.nth (.var 0) (.wrap .i64 (.add (.var 0) (.lit 1)))) (.wrap .i64 (.wrap .u64 (.sub (.nth (.var 0) (.var 0)) (.nth (.var 0) (.wrap .i64 (.add (.var 0) (.lit 1))))))) (.var 0)) (.lit 0) (.lit 0))) (.var (nLn + 2))), (.int .i64 (.lit 0))]), [((.lt (.lit 0) (.wrap .i64 (.wrap .u64 (.sub (.nth (.var 0) (.var 0)) (.nth (.var 0) (.wrap .i64 (.add (.var 0) (.lit 1)))))))), true), ((.lt (.var 1) (.wrap .i64 (.wrap .u64 (.sub (.nth (.var 0) (.var 0)) (.nth (.var 0) (.wrap .i64 (.add (.var 0) (.lit 1)))))))), false), ((.lt (.wrap .i64 (.wrap .u64 (.sub (.nth (.var 0) (.var 0)) (.nth (.var 0) (.wrap .i64 (.add (.var 0) (.lit 1))))))) (.lit 0)), false), ((.lt (.wrap .i64 (.add (.var 0) (.lit 1))) (.len (.var 0))), true), ((.lt (.wrap .i64 (.add (.var 0) (.lit 1))) (.lit 0)), false), ((.lt (.var 0) (.len (.var 0))), true), ((.lt (.len (.var 0)) (.lit 1099511627776)), true), ((.lt (.wrap .i64 (.add (.wrap .i64 (.add (.var 0) (.wrap .i64 (.mul (.lit 2) (.var 1))))) (.lit 1))) (.len (.var 0))), true), ((.lt (.var 0) (.wrap .i64 (.sub (.wrap .i64 (.sub (.lit 65536) (.wrap .i64 (.mul (.lit 2) (.var 1))))) (.lit 1)))), true), ((.lt (.var 0) (.lit 0)), false), ((.eq (.bits 0 .i64 (.var 1) (.wrap .i64 (.sub (.var 1) (.lit 1)))) (.lit 0)), true), ((.lt (.lit 256) (.var 1)), false), ((.lt (.var 1) (.lit 2)), false)], [(0, (.cells [(.sl 1 (.lit 0) (.len (.var 0)) (.var 2))] 105 true)), (1, (.row .u64 (.var 0) (.var 2) 53)), (4149515568896103550252416028678955351642268946083712014345610154013554417347499047001293651546389103160031336445652464951572378283949016792918119262476010410940090581932032915406848, (.row .u64 (.var 0) (.var 4149515568896103550252416028678955351642268946083712014345610154013554417347499047001293651546389103160031336445652464951572378283949016792918119262476010410940090581932032915406848) 53)), ((nLn + 2), (.row .u64 (.gl 0 (.app 41 (.var 0) (.var 0) (.var 0) (.var 1) (.nth (.var 0) (.wrap .i64 (.add (.var 0) (.lit 1)))) (.wrap .i64 (.wrap .u64 (.sub (.nth (.var 0) (.var 0)) (.nth (.var 0) (.wrap .i64 (.add (.var 0) (.lit 1))))))) (.var 0)) (.lit 0) (.lit 0)) (.var (nLn + 2)) 53))]⟩,
  ⟨false, (.tup [.nilSl, (.int .i64 (.lit 0))]), [((.lt (.lit 0) (.wrap .i64 (.wrap .u64 (.sub (.nth (.var 0) (.var 0)) (.nth (.var 0) (.wrap .i64 (.add (.var 0) (.lit 1)))))))), false), ((.lt (.var 1) (.wrap .i64 (.wrap .u64 (.sub (.nth (.var 0) (.var 0)) (.nth (.var 0) (.wrap .i64 (.add (.var 0) (.lit 1)))))))), false), ((.lt (.wrap .i64 (.wrap .u64 (.sub (.nth (.var 0) (.var 0)) (.nth (.var 0) (.wrap .i64 (.add (.var 0) (.lit 1))))))) (.lit 0)), false), ((.lt (.wrap .i64 (.add (.var 0) (.lit 1))) (.len (.var 0))), true), ((.lt (.wrap .i64 (.add (.var 0) (.lit 1))) (.lit 0)), false), ((.lt (.var 0) (.len (.var 0))), true), ((.lt (.len (.var 0)) (.lit 1099511627776)), true), ((.lt (.wrap .i64 (.add (.wrap .i64 (.add (.var 0) (.wrap .i64 (.mul (.lit 2) (.var 1))))) (.lit 1))) (.len (.var 0))), true), ((.lt (.var 0) (.wrap .i64 (.sub (.wrap .i64 (.sub (.lit 65536) (.wrap .i64 (.mul (.lit 2) (.var 1))))) (.lit 1)))), true), ((.lt (.var 0) (.lit 0)), false), ((.eq (.bits 0 .i64 (.var 1) (.wrap .i64 (.sub (.var 1) (.lit 1)))) (.lit 0)), true), ((.lt (.lit 256) (.var 1)), false), ((.lt (.var 1) (.lit 2)), false)], [(0, (.cells [(.sl 1 (.lit 0) (.len (.var 0)) (.var 2))] 105 true)), (1, (.row .u64 (.var 0) (.var 2) 53)), (4149515568896103550252416028678955351642268946083712014345610154013554417347499047001293651546389103160031336445652464951572378283949016792918119262476010410940090581932032915406848, (.row .u64 (.var 0) (.var 4149515568896103550252416028678955351642268946083712014345610154013554417347499047001293651546389103160031336445652464951572378283949016792918119262476010410940090581932032915406848) 53))]⟩,
  ⟨true, (.tup []), [((.lt (.wrap .i64 (.add (.var 0) (.lit 1))) (.lit 0)), true), ((.lt (.len (.var 0)) (.lit 1099511627776)), true), ((.lt (.wrap .i64 (.add (.wrap .i64 (.add (.var 0) (.wrap .i64 (.mul (.lit 2) (.var 1))))) (.lit 1))) (.len (.var 0))), true), ((.lt (.var 0) (.wrap .i64 (.sub (.wrap .i64 (.sub (.lit 65536) (.wrap .i64 (.mul (.lit 2) (.var 1))))) (.lit 1)))), true), ((.lt (.var 0) (.lit 0)), false), ((.eq (.bits 0 .i64 (.var 1) (.wrap .i64 (.sub (.var 1) (.lit 1)))) (.lit 0)), true), ((.lt (.lit 256) (.var 1)), false), ((.lt (.var 1) (.lit 2)), false)], []⟩,
  ⟨true, (.tup []), [((.lt (.wrap .i64 (.add (.var 0) (.lit 1))) (.len (.var 0))), false), ((.lt (.wrap .i64 (.add (.var 0) (.lit 1))) (.lit 0)), false), ((.lt (.len (.var 0)) (.lit 1099511627776)), true), ((.lt (.wrap .i64 (.add (.wrap .i64 (.add (.var 0) (.wrap .i64 (.mul (.lit 2) (.var 1))))) (.lit 1))) (.len (.var 0))), true), ((.lt (.var 0) (.wrap .i64 (.sub (.wrap .i64 (.sub (.lit 65536) (.wrap .i64 (.mul (.lit 2) (.var 1))))) (.lit 1)))), true), ((.lt (.var 0) (.lit 0)), false), ((.eq (.bits 0 .i64 (.var 1) (.wrap .i64 (.sub (.var 1) (.lit 1)))) (.lit 0)), true), ((.lt (.lit 256) (.var 1)), false), ((.lt (.var 1) (.lit 2)), false)], []⟩,
  ⟨false, (.tup [.nilSl, (.int .i64 (.lit 2))]), [((.lt (.var 0) (.lit 0)), true), ((.eq (.bits 0 .i64 (.var 1) (.wrap .i64 (.sub (.var 1) (.lit 1)))) (.lit 0)), true), ((.lt (.lit 256) (.var 1)), false), ((.lt (.var 1) (.lit 2)), false)], [(0, (.cells [(.sl 1 (.lit 0) (.len (.var 0)) (.var 2))] 105 true)), (1, (.row .u64 (.var 0) (.var 2) 53))]⟩,
  ⟨false, (.tup [.nilSl, (.int .i64 (.lit 2))]), [((.eq (.bits 0 .i64 (.var 1) (.wrap .i64 (.sub (.var 1) (.lit 1)))) (.lit 0)), false), ((.lt (.lit 256) (.var 1)), false), ((.lt (.var 1) (.lit 2)), false)], [(0, (.cells [(.sl 1 (.lit 0) (.len (.var 0)) (.var 2))] 105 true)), (1, (.row .u64 (.var 0) (.var 2) 53))]⟩,
  ⟨false, (.tup [.nilSl, (.int .i64 (.lit 2))]), [((.lt (.lit 256) (.var 1)), true), ((.lt (.var 1) (.lit 2)), false)], [(0, (.cells [(.sl 1 (.lit 0) (.len (.var 0)) (.var 2))] 105 true)), (1, (.row .u64 (.var 0) (.var 2) 53))]⟩,
  ⟨false, (.tup [.nilSl, (.int .i64 (.lit 2))]), [((.lt (.var 1) (.lit 2)), true)], [(0, (.cells [(.sl 1 (.lit 0) (.len (.var 0)) (.var 2))] 105 true)), (1, (.row .u64 (.var 0) (.var 2) 53))]⟩]
theorem pcLn_eq : (eLn Try.prog).pc = pcLn := by kernel_rfl
theorem body0Ln : (body0L Try.prog).bind (sumsT Try.prog nLn LO7 SZ7 (tgLn Try.prog)) = some sums0Ln := by kernel_rfl
theorem body1Ln : (body1L Try.prog).bind (sumsT Try.prog nLn LO7 SZ7 (tgLn Try.prog)) = some sumsLn := by kernel_rfl
theorem oneLn : (loopsAt Try.prog fLn 11).length = 1 := by kernel_rfl
def oLn (P : Program) : Orac := noOrac.withLoop fLn 11 nLn (eLn P).fr (eLn P).hp (mkM nLn (gLn P) (bLn P))
theorem avLn : pav nLn (nLn + 64) pcLn = true := by kernel_rfl
theorem runLn : runX Try.prog (oLn Try.prog) fLn tLn.args tLn.pc tLn.hp = some ouLn := by kernel_rfl

/-- how many, of numbers. -/
def manyZL (l : List Int) (at' : Int) : Int := IntKind.i64.wrap (IntKind.u64.wrap (l.getD at'.toNat 0 - l.getD (IntKind.i64.wrap (at' + 1)).toNat 0))
/-- the first one's number -/
def topZL (l : List Int) (at' : Int) : Int := l.getD (IntKind.i64.wrap (at' + 1)).toNat 0
structure FactsLn (ν : Env Gh) : Prop where
  at0 : 0 ≤ ν.i 0
  sz : Pow (ν.i 1)
  room : ν.i 0 + 2 * ν.i 1 + 1 < (ν.l 0).length
  len : (ν.l 0).length < 1099511627776
  n1 : 0 ≤ manyZL (ν.l 0) (ν.i 0)
  n2 : manyZL (ν.l 0) (ν.i 0) ≤ ν.i 1
theorem factsLn {ν : Env Gh} (h : pcDen ν pcLn) : FactsLn ν := by
  simp only [pcLn, pcDen_cons_iff, pcDen_nil_iff, SB.den, decide_eq_true_eq, decide_eq_false_iff_not, beq_iff_eq] at h
  simp only [SI.den, SL.den] at h
  obtain ⟨h1, h2, h3, h4, h5, h6, h7, h8, h9, h10, h11, h12, -⟩ := h
  have hp := (bits_iff _ (by omega) (by omega)).1 h10
  rw [wrapS (2 * ν.i 1) (by omega) (by omega), wrapS (ν.i 0 + 2 * ν.i 1) (by omega) (by omega)] at h7
  rw [wrapS _ (by omega) (by omega)] at h7
  exact ⟨by omega, hp, by omega, by omega, by unfold manyZL; omega, by unfold manyZL; omega⟩
theorem bLn_pc {ν : Env Gh} (h : ∀ x ∈ bLn Try.prog, x.1.den ν ≠ x.2) : pcDen ν pcLn := by
  intro c b hm
  have := h (c, !b) (by unfold bLn; rw [pcLn_eq]; exact List.mem_map.2 ⟨(c, b), hm, rfl⟩)
  revert this
  simp only
  cases c.den ν <;> cases b <;> simp
/-- The place of a task. -/
theorem idxLn (at' sz t : Int) (h0 : 0 ≤ at') (h1 : Pow sz) (h2 : at' < 2000000000000) : IntKind.i64.wrap (IntKind.i64.wrap (IntKind.i64.wrap (at' + 2) + IntKind.i64.wrap (2 * IntKind.i64.wrap (bitsDen 0 .u64 (IntKind.u64.wrap t) (IntKind.u64.wrap (IntKind.i64.wrap (sz - 1)))))) + 1) = at' + 3 + 2 * (t % 18446744073709551616 % sz) ∧ 0 ≤ t % 18446744073709551616 % sz ∧ t % 18446744073709551616 % sz < sz := by
  rw [mask_mod _ sz h1, wrapU, Int.emod_emod_of_dvd t (Int.dvd_refl _)]
  have hpos : 0 < sz ∧ sz ≤ 256 := by unfold Pow at h1; omega
  have a := Int.emod_nonneg (t % 18446744073709551616) (show sz ≠ 0 by omega)
  have b := Int.emod_lt_of_pos (t % 18446744073709551616) hpos.1
  rw [wrapS (at' + 2) (by omega) (by omega), wrapS (t % 18446744073709551616 % sz) (by omega) (by omega), wrapS (2 * (t % 18446744073709551616 % sz)) (by omega) (by omega), wrapS (at' + 2 + 2 * (t % 18446744073709551616 % sz)) (by omega) (by omega), wrapS _ (by omega) (by omega)]
  exact ⟨by omega, a, b⟩
theorem dec_iff {p : Prop} {i : Decidable p} {b : Bool} : @decide p i = b ↔ (p ↔ b = true) := by
  by_cases h : p <;> cases b <;> simp [h]
theorem dec_and2 {x y a b : Int} {i : Decidable (x < y)} {j : Decidable (a < b)} {c : Bool} : (!@decide (x < y) i && !@decide (a < b) j) = c ↔ ((y ≤ x ∧ b ≤ a) ↔ c = true) := by
  by_cases h1 : x < y <;> by_cases h2 : a < b <;> cases c <;> simp [h1, h2] <;> omega
attribute [local irreducible] nmAt
theorem oLn_ok : OOK Try.prog (oLn Try.prog) inM := by
  have hp : ∀ {ν : Env Gh} {x : Vals Gh}, (∀ x ∈ bLn Try.prog, x.1.den ν ≠ x.2) → 0 ≤ x.i 0 → x.i 0 ≤ 300 → (x.l 2).length < 1000 → pcDen (ν.at nLn x) (pLn Try.prog) := by
    intro ν x h h0 h1 h2
    have rf : RF nLn ν x (ν.at nLn x) := RF.self rfl
    have r0 : (ν.at nLn x).i nLn = x.i 0 := rf.i 0 (by decide)
    have h := bLn_pc h
    have hold : pcDen (ν.at nLn x) pcLn := pcDen_agree (at_agree (ρ := fun _ => 0) (ρ' := fun _ => 0) (fun _ _ => rfl)) avLn h
    unfold pLn
    rw [pcLn_eq]
    simp only [pcDen_cons_iff, SB.den, decide_eq_true_eq, decide_eq_false_iff_not]
    simp only [SI.den, SL.den, r0, rf.l 2 (by decide)]
    exact ⟨by omega, by omega, by omega, hold⟩
  refine loopP_ok pr noOrac_ok (rfl : nLn = nmAt 11) (by decide +kernel) oneLn (ghL []) body1Ln body0Ln
    (fun ν x => ∃ d : Nat, 1 ≤ d ∧ (d : Int) ≤ manyZL (ν.l 0) (ν.i 0) ∧ x.i 0 = d ∧ x.l 2 = slotsG (ν.l 0) (ν.i 0) (ν.i 1) (topZL (ν.l 0) (ν.i 0)) d 18446744073709551616 3 2)
    (fun ν x => (manyZL (ν.l 0) (ν.i 0) - x.i 0).toNat) (fun ν => (manyZL (ν.l 0) (ν.i 0)).toNat) ?_ ?_ noOrac_ok
  · intro t ht ν ν2 hI h rf hpc
    have F := factsLn (bLn_pc h)
    have F1 := F.at0
    have F2 := F.room
    have F3 := F.len
    have F0 := F.n1
    have F4 := F.n2
    have F5 : 2 ≤ ν.i 1 ∧ ν.i 1 ≤ 256 := by have := F.sz; unfold Pow at this; omega
    have hidx := idxLn (ν.i 0) (ν.i 1) (topZL (ν.l 0) (ν.i 0)) F1 F.sz (by omega)
    have hm : IntKind.u64.wrap (manyZL (ν.l 0) (ν.i 0)) = manyZL (ν.l 0) (ν.i 0) := by rw [wrapU]; omega
    unfold topZL at hidx
    unfold manyZL at hm
    simp only [sums0Ln, List.mem_cons, List.not_mem_nil, or_false] at ht
    rcases ht with rfl | rfl | rfl | rfl
    all_goals
      simp only [pcDen_cons_iff, SB.den, decide_eq_true_eq, decide_eq_false_iff_not, beq_iff_eq] at hpc
      simp only [SI.den, SL.den, rf.io 0 (by decide), rf.io 1 (by decide), rf.lo 0 (by decide), hidx.1, hm] at hpc
    · show False
      omega
    · show False
      omega
    · have hm0 : 0 < manyZL (ν.l 0) (ν.i 0) := hpc.2.2.1
      generalize hy : Mt.vals _ (ghL []) ν2 = y
      have y0 : y.i 0 = 1 := by
        rw [← hy]
        simp only [Mt.vals, lkp_cons, lkp_nil, Nat.reduceEqDiff, reduceIte, SI.den]
      have y2 : y.l 2 = [(ν.l 0).getD (ν.i 0 + 3 + 2 * (topZL (ν.l 0) (ν.i 0) % 18446744073709551616 % ν.i 1)).toNat 0] := by
        unfold topZL
        rw [← hy]
        simp only [Mt.vals, lkp_cons, lkp_nil, Nat.reduceEqDiff, reduceIte, SI.den, SL.den, rf.io 0 (by decide), rf.io 1 (by decide), rf.lo 0 (by decide), hidx.1]
      refine ⟨⟨1, by omega, by omega, by omega, ?_⟩, hp h (by omega) (by omega) (by rw [y2]; simp), by show _ < (manyZL (ν.l 0) (ν.i 0)).toNat; omega, ?_⟩
      · rw [slotsG_step _ _ _ _ _ _ _ 0, y2]
        simp [slotsG]
      · constructor <;> simp [SI.den, SL.den, at_l, y2]
    · refine ⟨fun g hg => ?_, by constructor <;> simp⟩
      cases hg
      refine pcDen_one ?_
      have rf3 : ∀ y, RF nLn ν y (ν.at nLn y) := fun y => RF.self rfl
      simp only [manyL, SB.den, decide_eq_false_iff_not]
      simp only [SI.den, SL.den, (rf3 _).io 0 (by decide), (rf3 _).lo 0 (by decide)]
      exact decide_eq_false hpc.1
  · intro t ht ν x ν2 hI h hJ _ rf hpc
    have F := factsLn (bLn_pc h)
    have F1 := F.at0
    have F2 := F.room
    have F3 := F.len
    have F4 := F.n2
    have F5 : 2 ≤ ν.i 1 ∧ ν.i 1 ≤ 256 := by have := F.sz; unfold Pow at this; omega
    obtain ⟨d, d1, d2, j0, j2⟩ := hJ
    have q0 : ν2.i (nLn + 0) = (d : Int) := (rf.i 0 (by decide)).trans j0
    have hidx := idxLn (ν.i 0) (ν.i 1) (topZL (ν.l 0) (ν.i 0) + d) F1 F.sz (by omega)
    have hm : IntKind.u64.wrap (manyZL (ν.l 0) (ν.i 0)) = manyZL (ν.l 0) (ν.i 0) := by rw [wrapU]; omega
    unfold topZL at hidx
    unfold manyZL at hm
    have hl : (x.l 2).length = d := by rw [j2, slotsG_length]; omega
    simp only [sumsLn, List.mem_cons, List.not_mem_nil, or_false] at ht
    rcases ht with rfl | rfl | rfl | rfl | rfl
    all_goals
      simp only [pcDen_cons_iff, SB.den, decide_eq_true_eq, decide_eq_false_iff_not, beq_iff_eq] at hpc
      simp only [SI.den, SL.den, q0, rf.l 2 (by decide), rf.io 0 (by decide), rf.io 1 (by decide), rf.lo 0 (by decide), hidx.1, hl, hm] at hpc
    · show False
      omega
    · show False
      omega
    · show False
      omega
    · have hm0 : (d : Int) < manyZL (ν.l 0) (ν.i 0) := hpc.2.2.2.1
      generalize hy : Mt.vals _ (ghL []) ν2 = y
      have y0 : y.i 0 = (d : Int) + 1 := by
        rw [← hy]
        simp only [Mt.vals, lkp_cons, lkp_nil, Nat.reduceEqDiff, reduceIte, SI.den, SL.den, q0]
        rw [wrapU]; omega
      have y2 : y.l 2 = x.l 2 ++ [(ν.l 0).getD (ν.i 0 + 3 + 2 * ((topZL (ν.l 0) (ν.i 0) + d) % 18446744073709551616 % ν.i 1)).toNat 0] := by
        unfold topZL
        rw [← hy]
        simp only [Mt.vals, lkp_cons, lkp_nil, Nat.reduceEqDiff, reduceIte, SI.den, SL.den, q0, rf.l 2 (by decide), rf.io 0 (by decide), rf.io 1 (by decide), rf.lo 0 (by decide), hidx.1]
      refine ⟨⟨d + 1, by omega, by omega, by rw [y0]; omega, ?_⟩, hp h (by omega) (by omega) (by rw [y2]; simp [hl]; omega), by show _ < (manyZL (ν.l 0) (ν.i 0) - x.i 0).toNat; omega, ?_⟩
      · rw [slotsG_step, y2, j2]
      · constructor <;> simp [SI.den, SL.den, at_l, y2, rf.l 2 (by decide)]
    · have hd : (d : Int) = manyZL (ν.l 0) (ν.i 0) := by
        have := hpc.1
        show (d : Int) = manyZL (ν.l 0) (ν.i 0)
        have h0 : ¬ (d : Int) < manyZL (ν.l 0) (ν.i 0) := this
        omega
      have rf3 : ∀ y, RF nLn ν y (ν.at nLn y) := fun y => RF.self rfl
      refine ⟨fun g hg => ?_, ?_⟩
      · cases hg
        refine pcDen_one ?_
        simp only [manyL, SB.den, decide_eq_true_eq]
        simp only [SI.den, SL.den, (rf3 _).io 0 (by decide), (rf3 _).lo 0 (by decide)]
        exact decide_eq_true (show 0 < manyZL (ν.l 0) (ν.i 0) by omega)
      · have e : ∀ y, (listL (.var 0) (.var 1) topL manyL (.var 0)).den (ν.at nLn y) = x.l 2 := by
          intro y
          simp only [listL, topL, manyL, SL.den, SG.den, SI.den, (rf3 _).I, hI, (rf3 _).io 0 (by decide), (rf3 _).io 1 (by decide), (rf3 _).lo 0 (by decide)]
          rw [j2, hd]
          rfl
        unfold listL topL manyL at e
        constructor
        · intro y hy
          simp only [List.mem_cons, List.not_mem_nil, or_false] at hy
          subst hy
          simp only [SI.den]
          rw [e]
          simp only [SL.den, rf.l 2 (by decide)]
        · intro y hy
          simp only [List.mem_cons, List.not_mem_nil, or_false] at hy
          subst hy
          simp only
          rw [e]
          simp only [SL.den, rf.l 2 (by decide)]
        · simp
        · simp
/-! in short -/
def shLn : List CLeaf := [
  ⟨false, .tup [.nilSl, .int .i64 (.lit 2)], [(rightB 2 (.var 0) (.var 1), false)], tLn.hp⟩,
  ⟨false, .tup [.nilSl, .int .i64 (.lit 3)], [(roomL, false), (rightB 2 (.var 0) (.var 1), true)], tLn.hp⟩,
  ⟨false, .tup [.nilSl, .int .i64 (.lit 9)], [(manyLB, false), (roomL, true), (rightB 2 (.var 0) (.var 1), true)], tLn.hp⟩,
  ⟨false, .tup [.sl (nLn + 2) (.lit 0) (.len (listL (.var 0) (.var 1) topL manyL (.var 0))) (.var (nLn + 2)), .int .i64 (.lit 0)], [(.lt (.lit 0) manyL, true), (manyLB, true), (roomL, true), (rightB 2 (.var 0) (.var 1), true), (.eq (.len (listL (.var 0) (.var 1) topL manyL (.var 0))) manyL, true)], tLn.hp ++ [(nLn + 2, .row .u64 (listL (.var 0) (.var 1) topL manyL (.var 0)) (.var (nLn + 2)) 53)]⟩,
  ⟨false, .tup [.nilSl, .int .i64 (.lit 0)], [(.lt (.lit 0) manyL, false), (manyLB, true), (roomL, true), (rightB 2 (.var 0) (.var 1), true)], tLn.hp⟩,
  ⟨true, .tup [], [(.lt (.len (.var 0)) (.lit 1099511627776), false)], []⟩]
theorem shLn_ok : ∀ c ∈ ouLn, ∀ ν : Env Gh, ν.I = inM → pcDen ν c.pc → ∃ c' ∈ shLn, c'.bad = c.bad ∧ (∀ ρ, c'.v.den ν ρ = c.v.den ν ρ) ∧ c'.hp.Sublist c.hp ∧ pcDen ν c'.pc := by
  intro c hc ν hI hp
  have hR : ∀ b : Bool, (rightB 2 (.var 0) (.var 1)).den ν = b ↔ (Right 2 (ν.i 0) (ν.i 1) ↔ b = true) := fun b => by
    have := rightB_den ν 2 (.var 0) (.var 1)
    simp only [SI.den] at this
    rw [← this]
    cases (rightB 2 (.var 0) (.var 1)).den ν <;> cases b <;> simp
  have arg : ¬ Right 2 (ν.i 0) (ν.i 1) → ∃ c' ∈ shLn, c'.bad = false ∧ (∀ ρ, c'.v.den ν ρ = (SV.tup [.nilSl, .int .i64 (.lit 2)]).den ν ρ) ∧ c'.hp.Sublist tLn.hp ∧ pcDen ν c'.pc := fun h =>
    ⟨_, List.mem_cons_self .., rfl, fun _ => rfl, List.Sublist.refl _, pcDen_one ((hR false).2 (by simp [h]))⟩
  have yes : Right 2 (ν.i 0) (ν.i 1) → (rightB 2 (.var 0) (.var 1)).den ν = true := fun h => (hR true).2 (by simp [h])
  have room : ∀ b : Bool, roomL.den ν = b ↔ ((ν.i 0 + 2 * ν.i 1 + 1 < ((ν.l 0).length : Int)) ↔ b = true) := fun b => by
    simp only [roomL, SB.den]
    simp only [SI.den, SL.den]
    exact dec_iff
  have many : ∀ b : Bool, manyLB.den ν = b ↔ ((0 ≤ manyZL (ν.l 0) (ν.i 0) ∧ manyZL (ν.l 0) (ν.i 0) ≤ ν.i 1) ↔ b = true) := fun b => by
    simp only [manyLB, manyL, SB.den]
    simp only [SI.den, SL.den]
    exact dec_and2
  have pos : ∀ b : Bool, (SB.lt (.lit 0) manyL).den ν = b ↔ ((0 < manyZL (ν.l 0) (ν.i 0)) ↔ b = true) := fun b => by
    simp only [manyL, SB.den]
    simp only [SI.den, SL.den]
    exact dec_iff
  have big : ¬ ((ν.l 0).length : Int) < 1099511627776 → ∃ c' ∈ shLn, c'.bad = true ∧ (∀ ρ, c'.v.den ν ρ = (SV.tup []).den ν ρ) ∧ c'.hp.Sublist [] ∧ pcDen ν c'.pc := fun h =>
    ⟨_, List.mem_of_getElem? (show shLn[5]? = some _ from rfl), rfl, fun _ => rfl, List.Sublist.refl _, pcDen_one (by simp only [SB.den]; simp only [SI.den, SL.den]; exact decide_eq_false h)⟩
  -- what holds behind Right
  have right : bitsDen 0 .i64 (ν.i 1) (IntKind.i64.wrap (ν.i 1 - 1)) = 0 → ¬ 256 < ν.i 1 → ¬ ν.i 1 < 2 → ¬ ν.i 0 < 0 → ν.i 0 < IntKind.i64.wrap (IntKind.i64.wrap (65536 - IntKind.i64.wrap (2 * ν.i 1)) - 1) → Right 2 (ν.i 0) (ν.i 1) ∧ IntKind.i64.wrap (IntKind.i64.wrap (ν.i 0 + IntKind.i64.wrap (2 * ν.i 1)) + 1) = ν.i 0 + 2 * ν.i 1 + 1 ∧ IntKind.i64.wrap (ν.i 0 + 1) = ν.i 0 + 1 ∧ ν.i 0 < 65536 := by
    intro h1 h2 h3 h4 h5
    rw [wrapS (2 * ν.i 1) (by omega) (by omega), wrapS (65536 - 2 * ν.i 1) (by omega) (by omega), wrapS _ (by omega) (by omega)] at h5
    refine ⟨⟨by omega, by omega, (bits_iff _ (by omega) (by omega)).1 h1⟩, ?_, wrapS _ (by omega) (by omega), by omega⟩
    rw [wrapS (2 * ν.i 1) (by omega) (by omega), wrapS (ν.i 0 + 2 * ν.i 1) (by omega) (by omega), wrapS _ (by omega) (by omega)]
  have noPow : ¬ ν.i 1 < 2 → ¬ 256 < ν.i 1 → bitsDen 0 .i64 (ν.i 1) (IntKind.i64.wrap (ν.i 1 - 1)) ≠ 0 → ¬ Right 2 (ν.i 0) (ν.i 1) := fun h1 h2 h3 ⟨_, _, r3⟩ => h3 ((bits_iff _ (by omega) (by omega)).2 r3)
  simp only [ouLn, List.mem_cons, List.not_mem_nil, or_false] at hc
  rcases hc with rfl | rfl | rfl | rfl | rfl | rfl | rfl | rfl | rfl | rfl | rfl | rfl | rfl | rfl | rfl | rfl
  all_goals
    simp only [pcDen_cons_iff, SB.den, decide_eq_true_eq, decide_eq_false_iff_not, beq_iff_eq, beq_eq_false_iff_ne] at hp
    simp only [SI.den, SL.den] at hp
  · refine arg fun ⟨r1, r2, r3⟩ => ?_
    rw [wrapS (2 * ν.i 1) (by omega) (by omega), wrapS (65536 - 2 * ν.i 1) (by omega) (by omega), wrapS _ (by omega) (by omega)] at hp
    omega
  · obtain ⟨h1, h2, h3, h4, h5, h6, -⟩ := hp
    obtain ⟨r, e1, e2, e3⟩ := right h4 h5 h6 h3 h2
    rw [e1] at h1
    exact ⟨_, List.mem_of_getElem? (show shLn[1]? = some _ from rfl), rfl, fun _ => rfl, List.Sublist.refl _, pcDen_cons ((room false).2 (by simp; omega)) (pcDen_one (yes r))⟩
  · exact big hp.1
  · obtain ⟨h1, h2, h3, h4, h5, h6, h7, h8, -⟩ := hp
    obtain ⟨r, e1, e2, e3⟩ := right h6 h7 h8 h5 h4
    have := r.2.2.le
    omega
  · obtain ⟨h1, h2, h3, h4, h5, h6, h7, h8, h9, -⟩ := hp
    obtain ⟨r, e1, e2, e3⟩ := right h7 h8 h9 h6 h5
    omega
  · obtain ⟨h1, h2, h3, h4, h5, h6, h7, h8, h9, h10, -⟩ := hp
    obtain ⟨r, e1, e2, e3⟩ := right h8 h9 h10 h7 h6
    have := r.2.2.le
    omega
  · obtain ⟨h1, h2, h3, h4, h5, h6, h7, h8, h9, h10, h11, -⟩ := hp
    obtain ⟨r, e1, e2, e3⟩ := right h9 h10 h11 h8 h7
    have h1 : manyZL (ν.l 0) (ν.i 0) < 0 := h1
    exact ⟨_, List.mem_of_getElem? (show shLn[2]? = some _ from rfl), rfl, fun _ => rfl, .cons_cons _ (.cons_cons _ (.cons _ .slnil)), pcDen_cons ((many false).2 (by simp; omega)) (pcDen_cons ((room true).2 (by simp; omega)) (pcDen_one (yes r)))⟩
  · obtain ⟨h0, h1, h2, h3, h4, h5, h6, h7, h8, h9, h10, h11, -⟩ := hp
    obtain ⟨r, e1, e2, e3⟩ := right h9 h10 h11 h8 h7
    have h0 : ν.i 1 < manyZL (ν.l 0) (ν.i 0) := h0
    exact ⟨_, List.mem_of_getElem? (show shLn[2]? = some _ from rfl), rfl, fun _ => rfl, .cons_cons _ (.cons_cons _ (.cons _ .slnil)), pcDen_cons ((many false).2 (by simp; omega)) (pcDen_cons ((room true).2 (by simp; omega)) (pcDen_one (yes r)))⟩
  · obtain ⟨h, h0, h1, h2, h3, h4, h5, h6, h7, h8, h9, h10, h11, -⟩ := hp
    obtain ⟨r, e1, e2, e3⟩ := right h9 h10 h11 h8 h7
    have h : 0 < manyZL (ν.l 0) (ν.i 0) := h
    have h0 : ¬ ν.i 1 < manyZL (ν.l 0) (ν.i 0) := h0
    have h1 : ¬ manyZL (ν.l 0) (ν.i 0) < 0 := h1
    exact ⟨_, List.mem_of_getElem? (show shLn[3]? = some _ from rfl), rfl, fun _ => rfl, .cons_cons _ (.cons_cons _ (.cons _ (.cons_cons _ .slnil))), pcDen_cons ((pos true).2 (by simp; omega)) (pcDen_cons ((many true).2 (by simp; omega)) (pcDen_cons ((room true).2 (by simp; omega)) (pcDen_cons (yes r) (pcDen_one (by
      simp only [SB.den, beq_iff_eq]
      have hm : manyL.den ν = manyZL (ν.l 0) (ν.i 0) := by simp only [manyL, SI.den, SL.den]; rfl
      simp only [SI.den, hm, listL, SL.den, SG.den, hI, inM_gl, inM, xga]
      simp only [ghL, slotsG_length]
      omega)))))⟩
  · obtain ⟨h, h0, h1, h2, h3, h4, h5, h6, h7, h8, h9, h10, h11, -⟩ := hp
    obtain ⟨r, e1, e2, e3⟩ := right h9 h10 h11 h8 h7
    have h : ¬ 0 < manyZL (ν.l 0) (ν.i 0) := h
    have h0 : ¬ ν.i 1 < manyZL (ν.l 0) (ν.i 0) := h0
    have h1 : ¬ manyZL (ν.l 0) (ν.i 0) < 0 := h1
    exact ⟨_, List.mem_of_getElem? (show shLn[4]? = some _ from rfl), rfl, fun _ => rfl, .cons_cons _ (.cons_cons _ (.cons _ .slnil)), pcDen_cons ((pos false).2 (by simp; omega)) (pcDen_cons ((many true).2 (by simp; omega)) (pcDen_cons ((room true).2 (by simp; omega)) (pcDen_one (yes r))))⟩
  · obtain ⟨h2, h3, h4, h5, h6, h7, h8, h9, -⟩ := hp
    obtain ⟨r, e1, e2, e3⟩ := right h7 h8 h9 h6 h5
    omega
  · obtain ⟨h1, h2, h3, h4, h5, h6, h7, h8, h9, -⟩ := hp
    obtain ⟨r, e1, e2, e3⟩ := right h7 h8 h9 h6 h5
    have := r.2.2.le
    omega
  · exact arg fun ⟨r1, r2, r3⟩ => by omega
  · exact arg (noPow hp.2.2.1 hp.2.1 hp.1)
  · exact arg fun ⟨r1, r2, r3⟩ => by have := r3.le; omega
  · exact arg fun ⟨r1, r2, r3⟩ => by have := r3.le; omega
theorem ln_ok {O : Orac} (oo : OOK Try.prog O inM) : OOK Try.prog (O.withCallF fLn (sumK Try.prog tLn (splitL shLn))) inM := withCallF_ok oo (sum_okC pr oLn_ok runLn (splitL_ok shLn_ok) oo)
end Go.Proofs.Ytlmenjenkpnacaa
end

section
namespace Go.Proofs.Ytlmenjenkpnacaa
open Go Go.Sy Go.RowKit

def fR32 : Nat := 41
def tR32 : Tmpl := ⟨[.int .i64 (.var 0), .int .i64 (.var 1)], [], []⟩
end Go.Proofs.Ytlmenjenkpnacaa
end

section
namespace Go.Proofs.Ytlmenjenkpnacaa
open Go Go.Sy Go.RowKit

def ouR32 : List CLeaf := [
  ⟨false, (.bool (.lt (.var 0) (.wrap .i64 (.sub (.wrap .i64 (.sub (.lit 65536) (.wrap .i64 (.mul (.lit 2) (.var 1))))) (.lit 1))))), [((.lt (.var 0) (.lit 0)), false), ((.eq (.lit 2) (.var 1)), true)], []⟩,
  ⟨false, (.bool (.lit false)), [((.lt (.var 0) (.lit 0)), true), ((.eq (.lit 2) (.var 1)), true)], []⟩,
  ⟨false, (.bool (.lt (.var 0) (.wrap .i64 (.sub (.wrap .i64 (.sub (.lit 65536) (.wrap .i64 (.mul (.lit 2) (.var 1))))) (.lit 1))))), [((.lt (.var 0) (.lit 0)), false), ((.eq (.lit 4) (.var 1)), true), ((.eq (.lit 2) (.var 1)), false)], []⟩,
  ⟨false, (.bool (.lit false)), [((.lt (.var 0) (.lit 0)), true), ((.eq (.lit 4) (.var 1)), true), ((.eq (.lit 2) (.var 1)), false)], []⟩,
  ⟨false, (.bool (.lt (.var 0) (.wrap .i64 (.sub (.wrap .i64 (.sub (.lit 65536) (.wrap .i64 (.mul (.lit 2) (.var 1))))) (.lit 1))))), [((.lt (.var 0) (.lit 0)), false), ((.eq (.lit 8) (.var 1)), true), ((.eq (.lit 4) (.var 1)), false), ((.eq (.lit 2) (.var 1)), false)], []⟩,
  ⟨false, (.bool (.lit false)), [((.lt (.var 0) (.lit 0)), true), ((.eq (.lit 8) (.var 1)), true), ((.eq (.lit 4) (.var 1)), false), ((.eq (.lit 2) (.var 1)), false)], []⟩,
  ⟨false, (.bool (.lt (.var 0) (.wrap .i64 (.sub (.wrap .i64 (.sub (.lit 65536) (.wrap .i64 (.mul (.lit 2) (.var 1))))) (.lit 1))))), [((.lt (.var 0) (.lit 0)), false), ((.eq (.lit 16) (.var 1)), true), ((.eq (.lit 8) (.var 1)), false), ((.eq (.lit 4) (.var 1)), false), ((.eq (.lit 2) (.var 1)), false)], []⟩,
  ⟨false, (.bool (.lit false)), [((.lt (.var 0) (.lit 0)), true), ((.eq (.lit 16) (.var 1)), true), ((.eq (.lit 8) (.var 1)), false), ((.eq (.lit 4) (.var 1)), false), ((.eq (.lit 2) (.var 1)), false)], []⟩,
  ⟨false, (.bool (.lt (.var 0) (.wrap .i64 (.sub (.wrap .i64 (.sub (.lit 65536) (.wrap .i64 (.mul (.lit 2) (.var 1))))) (.lit 1))))), [((.lt (.var 0) (.lit 0)), false), ((.eq (.lit 32) (.var 1)), true), ((.eq (.lit 16) (.var 1)), false), ((.eq (.lit 8) (.var 1)), false), ((.eq (.lit 4) (.var 1)), false), ((.eq (.lit 2) (.var 1)), false)], []⟩,
  ⟨false, (.bool (.lit false)), [((.lt (.var 0) (.lit 0)), true), ((.eq (.lit 32) (.var 1)), true), ((.eq (.lit 16) (.var 1)), false), ((.eq (.lit 8) (.var 1)), false), ((.eq (.lit 4) (.var 1)), false), ((.eq (.lit 2) (.var 1)), false)], []⟩,
  ⟨false, (.bool (.lt (.var 0) (.wrap .i64 (.sub (.wrap .i64 (.sub (.lit 65536) (.wrap .i64 (.mul (.lit 2) (.var 1))))) (.lit 1))))), [((.lt (.var 0) (.lit 0)), false), ((.eq (.lit 64) (.var 1)), true), ((.eq (.lit 32) (.var 1)), false), ((.eq (.lit 16) (.var 1)), false), ((.eq (.lit 8) (.var 1)), false), ((.eq (.lit 4) (.var 1)), false), ((.eq (.lit 2) (.var 1)), false)], []⟩,
  ⟨false, (.bool (.lit false)), [((.lt (.var 0) (.lit 0)), true), ((.eq (.lit 64) (.var 1)), true), ((.eq (.lit 32) (.var 1)), false), ((.eq (.lit 16) (.var 1)), false), ((.eq (.lit 8) (.var 1)), false), ((.eq (.lit 4) (.var 1)), false), ((.eq (.lit 2) (.var 1)), false)], []⟩,
  ⟨false, (.bool (.lt (.var 0) (.wrap .i64 (.sub (.wrap .i64 (.sub (.lit 65536) (.wrap .i64 (.mul (.lit 2) (.var 1))))) (.lit 1))))), [((.lt (.var 0) (.lit 0)), false), ((.eq (.lit 128) (.var 1)), true), ((.eq (.lit 64) (.var 1)), false), ((.eq (.lit 32) (.var 1)), false), ((.eq (.lit 16) (.var 1)), false), ((.eq (.lit 8) (.var 1)), false), ((.eq (.lit 4) (.var 1)), false), ((.eq (.lit 2) (.var 1)), false)], []⟩,
  ⟨false, (.bool (.lit false)), [((.lt (.var 0) (.lit 0)), true), ((.eq (.lit 128) (.var 1)), true), ((.eq (.lit 64) (.var 1)), false), ((.eq (.lit 32) (.var 1)), false), ((.eq (.lit 16) (.var 1)), false), ((.eq (.lit 8) (.var 1)), false), ((.eq (.lit 4) (.var 1)), false), ((.eq (.lit 2) (.var 1)), false)], []⟩,
  ⟨false, (.bool (.lt (.var 0) (.wrap .i64 (.sub (.wrap .i64 (.sub (.lit 65536) (.wrap .i64 (.mul (.lit 2) (.var 1))))) (.lit 1))))), [((.lt (.var 0) (.lit 0)), false), ((.eq (.lit 256) (.var 1)), true), ((.eq (.lit 128) (.var 1)), false), ((.eq (.lit 64) (.var 1)), false), ((.eq (.lit 32) (.var 1)), false), ((.eq (.lit 16) (.var 1)), false), ((.eq (.lit 8) (.var 1)), false), ((.eq (.lit 4) (.var 1)), false), ((.eq (.lit 2) (.var 1)), false)], []⟩,
  ⟨false, (.bool (.lit false)), [((.lt (.var 0) (.lit 0)), true), ((.eq (.lit 256) (.var 1)), true), ((.eq (.lit 128) (.var 1)), false), ((.eq (.lit 64) (.var 1)), false), ((.eq (.lit 32) (.var 1)), false), ((.eq (.lit 16) (.var 1)), false), ((.eq (.lit 8) (.var 1)), false), ((.eq (.lit 4) (.var 1)), false), ((.eq (.lit 2) (.var 1)), false)], []⟩,
  ⟨false, (.bool (.lit false)), [((.eq (.lit 256) (.var 1)), false), ((.eq (.lit 128) (.var 1)), false), ((.eq (.lit 64) (.var 1)), false), ((.eq (.lit 32) (.var 1)), false), ((.eq (.lit 16) (.var 1)), false), ((.eq (.lit 8) (.var 1)), false), ((.eq (.lit 4) (.var 1)), false), ((.eq (.lit 2) (.var 1)), false)], []⟩]
theorem runR32 : runX Try.prog noOrac fR32 tR32.args tR32.pc tR32.hp = some ouR32 := by kernel_rfl
def shR32 : List CLeaf := [⟨false, .bool (.lit true), [(rightB 2 (.var 0) (.var 1), true)], []⟩, ⟨false, .bool (.lit false), [(rightB 2 (.var 0) (.var 1), false)], []⟩]
theorem shR32_ok {G : Type} {I : In G} : ∀ c ∈ ouR32, ∀ ν : Env G, ν.I = I → pcDen ν c.pc → ∃ c' ∈ shR32, c'.bad = c.bad ∧ (∀ ρ, c'.v.den ν ρ = c.v.den ν ρ) ∧ c'.hp.Sublist c.hp ∧ pcDen ν c'.pc := by
  intro c hc ν hI hp
  have hR := rightB_den ν 2 (.var 0) (.var 1)
  have hN := rightB_no ν 2 (.var 0) (.var 1)
  simp only [SI.den] at hR hN
  have yes : Right 2 (ν.i 0) (ν.i 1) → ∃ c' ∈ shR32, c'.bad = false ∧ (∀ ρ, c'.v.den ν ρ = .bool true) ∧ c'.hp.Sublist [] ∧ pcDen ν c'.pc := fun h =>
    ⟨_, List.mem_cons_self .., rfl, fun _ => rfl, List.Sublist.refl _, pcDen_one (hR.2 h)⟩
  have no : ¬ Right 2 (ν.i 0) (ν.i 1) → ∃ c' ∈ shR32, c'.bad = false ∧ (∀ ρ, c'.v.den ν ρ = .bool false) ∧ c'.hp.Sublist [] ∧ pcDen ν c'.pc := fun h =>
    ⟨_, List.mem_of_getElem? (show shR32[1]? = some _ from rfl), rfl, fun _ => rfl, List.Sublist.refl _, pcDen_one (hN.2 h)⟩
  have lt : ∀ k : Int, ν.i 1 = k → (2 ≤ k ∧ k ≤ 256) → (SB.lt (.var 0) (.wrap .i64 (.sub (.wrap .i64 (.sub (.lit 65536) (.wrap .i64 (.mul (.lit 2) (.var 1))))) (.lit 1)))).den ν = decide (ν.i 0 < 65535 - 2 * k) := fun k hk h => by
    simp only [SB.den]
    simp only [SI.den, hk]
    rw [wrapS (2 * k) (by omega) (by omega), wrapS (65536 - 2 * k) (by omega) (by omega), wrapS _ (by omega) (by omega)]
    congr 1
    simp only [eq_iff_iff]
    omega
  have step : ∀ k : Int, Pow k → ν.i 1 = k → ¬ ν.i 0 < 0 → ∃ c' ∈ shR32, c'.bad = false ∧ (∀ ρ, c'.v.den ν ρ = .bool ((SB.lt (.var 0) (.wrap .i64 (.sub (.wrap .i64 (.sub (.lit 65536) (.wrap .i64 (.mul (.lit 2) (.var 1))))) (.lit 1)))).den ν)) ∧ c'.hp.Sublist [] ∧ pcDen ν c'.pc := by
    intro k hk hv h0
    have := hk.le
    by_cases hr : ν.i 0 < 65535 - 2 * k
    · rw [lt k hv this, decide_eq_true hr]
      exact yes ⟨by omega, by rw [hv]; omega, by rw [hv]; exact hk⟩
    · rw [lt k hv this, decide_eq_false hr]
      exact no fun ⟨_, r2, _⟩ => by rw [hv] at r2; omega
  simp only [ouR32, List.mem_cons, List.not_mem_nil, or_false] at hc
  rcases hc with rfl | rfl | rfl | rfl | rfl | rfl | rfl | rfl | rfl | rfl | rfl | rfl | rfl | rfl | rfl | rfl | rfl
  all_goals
    simp only [pcDen_cons_iff, SB.den, decide_eq_true_eq, decide_eq_false_iff_not, beq_iff_eq, beq_eq_false_iff_ne] at hp
    simp only [SI.den, SL.den] at hp
  · exact step 2 (by unfold Pow; omega) hp.2.1.symm hp.1
  · exact no fun ⟨r1, _, _⟩ => by omega
  · exact step 4 (by unfold Pow; omega) hp.2.1.symm hp.1
  · exact no fun ⟨r1, _, _⟩ => by omega
  · exact step 8 (by unfold Pow; omega) hp.2.1.symm hp.1
  · exact no fun ⟨r1, _, _⟩ => by omega
  · exact step 16 (by unfold Pow; omega) hp.2.1.symm hp.1
  · exact no fun ⟨r1, _, _⟩ => by omega
  · exact step 32 (by unfold Pow; omega) hp.2.1.symm hp.1
  · exact no fun ⟨r1, _, _⟩ => by omega
  · exact step 64 (by unfold Pow; omega) hp.2.1.symm hp.1
  · exact no fun ⟨r1, _, _⟩ => by omega
  · exact step 128 (by unfold Pow; omega) hp.2.1.symm hp.1
  · exact no fun ⟨r1, _, _⟩ => by omega
  · exact step 256 (by unfold Pow; omega) hp.2.1.symm hp.1
  · exact no fun ⟨r1, _, _⟩ => by omega
  · exact no fun ⟨_, _, r3⟩ => by unfold Pow at r3; omega
theorem right32_ok {O : Orac} {G : Type} {I : In G} (oo : OOK Try.prog O I) : OOK Try.prog (O.withCallF fR32 (sumK Try.prog tR32 (splitL shR32))) I := withCallF_ok oo (sum_okC pr noOrac_ok runR32 (splitL_ok shR32_ok) oo)
end Go.Proofs.Ytlmenjenkpnacaa
end
