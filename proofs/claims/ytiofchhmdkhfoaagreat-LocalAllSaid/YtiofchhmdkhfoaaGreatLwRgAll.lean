/- ring.Row.All: its state, its loop's head. -/
import Derived.Test.YtiofchhmdkhfoaaGreatSyXG
import Derived.Test.YtiofchhmdkhfoaaGreatLwXA
set_option linter.unusedVariables false
set_option linter.unusedSimpArgs false

section
namespace Go.Proofs.YtiofchhmdkhfoaaGreat
open Go Go.Sy Go.RowKit

def fRg : Nat := 102
def tRg : Tmpl := ⟨[.agg [.int .i64 (.var 0), .int .i64 (.var 1)], .ptr 0 (.lit 0)], [], [(0, .cells [.sl 1 (.lit 0) (.len (.var 0)) (.var 2)] 54 true), (1, .row .u64 (.var 0) (.var 2) 41)]⟩
def nRg : Nat := nmAt 14
def eRg (P : Program) : Leaf := capN 0 (capAll P noOrac fRg 14 tRg.args tRg.pc tRg.hp)
/-- top, and how many. -/
def topU : SI := .nth (.var 0) (.var 0)
def manyU : SI := .wrap .i64 (.wrap .i32 (.wrap .u32 (.sub (.wrap .u32 (.nth (.var 0) (.wrap .i64 (.add (.var 0) (.lit 1))))) (.wrap .u32 (.nth (.var 0) (.var 0))))))
def listU (at' size top many : SI) (l : SL) : SL := .gl 0 (.app 42 (.var 0) (.var 0) at' size top many l) (.lit 0) (.lit 0)
def hRg (P : Program) : Leaf := hdFrom 58 (hdD 11 (hdN nRg 10 2 .u64 41 (hdI nRg 57 0 (eRg P))))
/-- what is known at a round. -/
def pRg (P : Program) : PC := (.lt (.var nRg) (.lit 0), false) :: (.lt (.lit 300) (.var nRg), false) :: (.lt (.len (.var (nRg + 2))) (.lit 1000), true) :: (eRg P).pc
def xRg (P : Program) : Leaf := hdFrom 11 { hRg P with fr := (hRg P).fr.set 10 (.sl (nRg + 2) (.lit 0) (.len (listU (.var 0) (.var 1) topU manyU (.var 0))) (.var (nRg + 2))), hp := hset (nRg + 2) (.row .u64 (listU (.var 0) (.var 1) topU manyU (.var 0)) (.var (nRg + 2)) 41) (hRg P).hp }
def gRg (P : Program) : List Tgt := [⟨.exit 1, (xRg P).fr, (xRg P).hp, [(.lt (.lit 0) manyU, true)]⟩, ⟨.exit 1, (hdFrom 11 (eRg P)).fr, (eRg P).hp, [(.lt (.lit 0) manyU, false)]⟩]
def bRg (P : Program) : PC := (eRg P).pc.map fun x => (x.1, !x.2)
def body0R (P : Program) : Option (List Leaf) := codeX P noOrac LO7 SZ7 fRg 6000 0 (loopAt P fRg 14) (eRg P).fr ((bRg P).map fun x => (x.1, !x.2)) (eRg P).hp
def body1R (P : Program) : Option (List Leaf) := codeX P noOrac LO7 SZ7 fRg 6000 0 (loopAt P fRg 14) (hRg P).fr (pRg P) (hRg P).hp
def tgRg (P : Program) : List Tgt := ⟨.normal, (hRg P).fr, (hRg P).hp, pRg P⟩ :: gRg P
/-! what it says, in short -/
def manyUB : SB := .and (.not (.lt manyU (.lit 0))) (.not (.lt (.var 1) manyU))
def roomU : SB := .lt (.add (.add (.var 0) (.var 1)) (.lit 1)) (.len (.var 0))
end Go.Proofs.YtiofchhmdkhfoaaGreat
end

section
namespace Go.Proofs.YtiofchhmdkhfoaaGreat
open Go Go.Sy Go.RowKit

def pcRg : PC := [((.lt (.var 1) (.wrap .i64 (.wrap .i32 (.wrap .u32 (.sub (.wrap .u32 (.nth (.var 0) (.wrap .i64 (.add (.var 0) (.lit 1))))) (.wrap .u32 (.nth (.var 0) (.var 0)))))))), false), ((.lt (.wrap .i64 (.wrap .i32 (.wrap .u32 (.sub (.wrap .u32 (.nth (.var 0) (.wrap .i64 (.add (.var 0) (.lit 1))))) (.wrap .u32 (.nth (.var 0) (.var 0))))))) (.lit 0)), false), ((.lt (.wrap .i64 (.add (.var 0) (.lit 1))) (.len (.var 0))), true), ((.lt (.wrap .i64 (.add (.var 0) (.lit 1))) (.lit 0)), false), ((.lt (.var 0) (.len (.var 0))), true), ((.lt (.len (.var 0)) (.lit 1099511627776)), true), ((.lt (.wrap .i64 (.add (.wrap .i64 (.add (.var 0) (.var 1))) (.lit 1))) (.len (.var 0))), true), ((.lt (.var 0) (.wrap .i64 (.sub (.wrap .i64 (.sub (.lit 65536) (.var 1))) (.lit 1)))), true), ((.lt (.var 0) (.lit 0)), false), ((.eq (.bits 0 .i64 (.var 1) (.wrap .i64 (.sub (.var 1) (.lit 1)))) (.lit 0)), true), ((.lt (.lit 256) (.var 1)), false), ((.lt (.var 1) (.lit 2)), false)]
def sums0Rg : List SumT := [
  ⟨.bad, 0, ⟨[], [], [], [], [], [], [], []⟩, [((.lt (.wrap .i64 (.add (.wrap .i64 (.add (.var 0) (.lit 2))) (.wrap .i64 (.bits 0 .u32 (.wrap .u32 (.wrap .u32 (.nth (.var 0) (.var 0)))) (.wrap .u32 (.wrap .i64 (.sub (.var 1) (.lit 1)))))))) (.lit 0)), true), ((.lt (.lit 0) (.wrap .u32 (.wrap .i64 (.wrap .i32 (.wrap .u32 (.sub (.wrap .u32 (.nth (.var 0) (.wrap .i64 (.add (.var 0) (.lit 1))))) (.wrap .u32 (.nth (.var 0) (.var 0))))))))), true), ((.lt (.var 1) (.wrap .i64 (.wrap .i32 (.wrap .u32 (.sub (.wrap .u32 (.nth (.var 0) (.wrap .i64 (.add (.var 0) (.lit 1))))) (.wrap .u32 (.nth (.var 0) (.var 0)))))))), false), ((.lt (.wrap .i64 (.wrap .i32 (.wrap .u32 (.sub (.wrap .u32 (.nth (.var 0) (.wrap .i64 (.add (.var 0) (.lit 1))))) (.wrap .u32 (.nth (.var 0) (.var 0))))))) (.lit 0)), false), ((.lt (.wrap .i64 (.add (.var 0) (.lit 1))) (.len (.var 0))), true), ((.lt (.wrap .i64 (.add (.var 0) (.lit 1))) (.lit 0)), false), ((.lt (.var 0) (.len (.var 0))), true), ((.lt (.len (.var 0)) (.lit 1099511627776)), true), ((.lt (.wrap .i64 (.add (.wrap .i64 (.add (.var 0) (.var 1))) (.lit 1))) (.len (.var 0))), true), ((.lt (.var 0) (.wrap .i64 (.sub (.wrap .i64 (.sub (.lit 65536) (.var 1))) (.lit 1)))), true), ((.lt (.var 0) (.lit 0)), false), ((.eq (.bits 0 .i64 (.var 1) (.wrap .i64 (.sub (.var 1) (.lit 1)))) (.lit 0)), true), ((.lt (.lit 256) (.var 1)), false), ((.lt (.var 1) (.lit 2)), false)]⟩,
  ⟨.bad, 0, ⟨[], [], [], [], [], [], [], []⟩, [((.lt (.wrap .i64 (.add (.wrap .i64 (.add (.var 0) (.lit 2))) (.wrap .i64 (.bits 0 .u32 (.wrap .u32 (.wrap .u32 (.nth (.var 0) (.var 0)))) (.wrap .u32 (.wrap .i64 (.sub (.var 1) (.lit 1)))))))) (.len (.var 0))), false), ((.lt (.wrap .i64 (.add (.wrap .i64 (.add (.var 0) (.lit 2))) (.wrap .i64 (.bits 0 .u32 (.wrap .u32 (.wrap .u32 (.nth (.var 0) (.var 0)))) (.wrap .u32 (.wrap .i64 (.sub (.var 1) (.lit 1)))))))) (.lit 0)), false), ((.lt (.lit 0) (.wrap .u32 (.wrap .i64 (.wrap .i32 (.wrap .u32 (.sub (.wrap .u32 (.nth (.var 0) (.wrap .i64 (.add (.var 0) (.lit 1))))) (.wrap .u32 (.nth (.var 0) (.var 0))))))))), true), ((.lt (.var 1) (.wrap .i64 (.wrap .i32 (.wrap .u32 (.sub (.wrap .u32 (.nth (.var 0) (.wrap .i64 (.add (.var 0) (.lit 1))))) (.wrap .u32 (.nth (.var 0) (.var 0)))))))), false), ((.lt (.wrap .i64 (.wrap .i32 (.wrap .u32 (.sub (.wrap .u32 (.nth (.var 0) (.wrap .i64 (.add (.var 0) (.lit 1))))) (.wrap .u32 (.nth (.var 0) (.var 0))))))) (.lit 0)), false), ((.lt (.wrap .i64 (.add (.var 0) (.lit 1))) (.len (.var 0))), true), ((.lt (.wrap .i64 (.add (.var 0) (.lit 1))) (.lit 0)), false), ((.lt (.var 0) (.len (.var 0))), true), ((.lt (.len (.var 0)) (.lit 1099511627776)), true), ((.lt (.wrap .i64 (.add (.wrap .i64 (.add (.var 0) (.var 1))) (.lit 1))) (.len (.var 0))), true), ((.lt (.var 0) (.wrap .i64 (.sub (.wrap .i64 (.sub (.lit 65536) (.var 1))) (.lit 1)))), true), ((.lt (.var 0) (.lit 0)), false), ((.eq (.bits 0 .i64 (.var 1) (.wrap .i64 (.sub (.var 1) (.lit 1)))) (.lit 0)), true), ((.lt (.lit 256) (.var 1)), false), ((.lt (.var 1) (.lit 2)), false)]⟩,
  ⟨.normal, 0, ⟨[((nRg + 2), 5260135901548373507240989951031772368851768153430960612761911647297149072646864467642342519116870225872586365324966789620252149639545893567131976302309842112518221327862476873679403354177172656337685668744396800)], [(0, (.lit 1)), (2, (.var 5260135901548373507240989951031772368851768153430960612761911647297149072646864467642342519116870225872586365324966789620252149639545893567131976302309842112518221327862476873679403354177172656337685668744396800))], [(2, (.cons (.nth (.var 0) (.wrap .i64 (.add (.wrap .i64 (.add (.var 0) (.lit 2))) (.wrap .i64 (.bits 0 .u32 (.wrap .u32 (.wrap .u32 (.nth (.var 0) (.var 0)))) (.wrap .u32 (.wrap .i64 (.sub (.var 1) (.lit 1))))))))) .nil))], [], [((.lit 1), (.len (.var (nRg + 2))))], [], [], []⟩, [((.lt (.wrap .i64 (.add (.wrap .i64 (.add (.var 0) (.lit 2))) (.wrap .i64 (.bits 0 .u32 (.wrap .u32 (.wrap .u32 (.nth (.var 0) (.var 0)))) (.wrap .u32 (.wrap .i64 (.sub (.var 1) (.lit 1)))))))) (.len (.var 0))), true), ((.lt (.wrap .i64 (.add (.wrap .i64 (.add (.var 0) (.lit 2))) (.wrap .i64 (.bits 0 .u32 (.wrap .u32 (.wrap .u32 (.nth (.var 0) (.var 0)))) (.wrap .u32 (.wrap .i64 (.sub (.var 1) (.lit 1)))))))) (.lit 0)), false), ((.lt (.lit 0) (.wrap .u32 (.wrap .i64 (.wrap .i32 (.wrap .u32 (.sub (.wrap .u32 (.nth (.var 0) (.wrap .i64 (.add (.var 0) (.lit 1))))) (.wrap .u32 (.nth (.var 0) (.var 0))))))))), true), ((.lt (.var 1) (.wrap .i64 (.wrap .i32 (.wrap .u32 (.sub (.wrap .u32 (.nth (.var 0) (.wrap .i64 (.add (.var 0) (.lit 1))))) (.wrap .u32 (.nth (.var 0) (.var 0)))))))), false), ((.lt (.wrap .i64 (.wrap .i32 (.wrap .u32 (.sub (.wrap .u32 (.nth (.var 0) (.wrap .i64 (.add (.var 0) (.lit 1))))) (.wrap .u32 (.nth (.var 0) (.var 0))))))) (.lit 0)), false), ((.lt (.wrap .i64 (.add (.var 0) (.lit 1))) (.len (.var 0))), true), ((.lt (.wrap .i64 (.add (.var 0) (.lit 1))) (.lit 0)), false), ((.lt (.var 0) (.len (.var 0))), true), ((.lt (.len (.var 0)) (.lit 1099511627776)), true), ((.lt (.wrap .i64 (.add (.wrap .i64 (.add (.var 0) (.var 1))) (.lit 1))) (.len (.var 0))), true), ((.lt (.var 0) (.wrap .i64 (.sub (.wrap .i64 (.sub (.lit 65536) (.var 1))) (.lit 1)))), true), ((.lt (.var 0) (.lit 0)), false), ((.eq (.bits 0 .i64 (.var 1) (.wrap .i64 (.sub (.var 1) (.lit 1)))) (.lit 0)), true), ((.lt (.lit 256) (.var 1)), false), ((.lt (.var 1) (.lit 2)), false)]⟩,
  ⟨.exit 1, 1, ⟨[], [], [], [], [], [], [], []⟩, [((.lt (.lit 0) (.wrap .u32 (.wrap .i64 (.wrap .i32 (.wrap .u32 (.sub (.wrap .u32 (.nth (.var 0) (.wrap .i64 (.add (.var 0) (.lit 1))))) (.wrap .u32 (.nth (.var 0) (.var 0))))))))), false), ((.lt (.var 1) (.wrap .i64 (.wrap .i32 (.wrap .u32 (.sub (.wrap .u32 (.nth (.var 0) (.wrap .i64 (.add (.var 0) (.lit 1))))) (.wrap .u32 (.nth (.var 0) (.var 0)))))))), false), ((.lt (.wrap .i64 (.wrap .i32 (.wrap .u32 (.sub (.wrap .u32 (.nth (.var 0) (.wrap .i64 (.add (.var 0) (.lit 1))))) (.wrap .u32 (.nth (.var 0) (.var 0))))))) (.lit 0)), false), ((.lt (.wrap .i64 (.add (.var 0) (.lit 1))) (.len (.var 0))), true), ((.lt (.wrap .i64 (.add (.var 0) (.lit 1))) (.lit 0)), false), ((.lt (.var 0) (.len (.var 0))), true), ((.lt (.len (.var 0)) (.lit 1099511627776)), true), ((.lt (.wrap .i64 (.add (.wrap .i64 (.add (.var 0) (.var 1))) (.lit 1))) (.len (.var 0))), true), ((.lt (.var 0) (.wrap .i64 (.sub (.wrap .i64 (.sub (.lit 65536) (.var 1))) (.lit 1)))), true), ((.lt (.var 0) (.lit 0)), false), ((.eq (.bits 0 .i64 (.var 1) (.wrap .i64 (.sub (.var 1) (.lit 1)))) (.lit 0)), true), ((.lt (.lit 256) (.var 1)), false), ((.lt (.var 1) (.lit 2)), false)]⟩]
def sumsRg : List SumT := [
  ⟨.bad, 0, ⟨[], [], [], [], [], [], [], []⟩, [((.lt (.wrap .i64 (.add (.wrap .i64 (.add (.var 0) (.lit 2))) (.wrap .i64 (.bits 0 .u32 (.wrap .u32 (.add (.wrap .u32 (.nth (.var 0) (.var 0))) (.var (nRg + 0)))) (.wrap .u32 (.wrap .i64 (.sub (.var 1) (.lit 1)))))))) (.lit 0)), true), ((.lt (.var (nRg + 0)) (.wrap .u32 (.wrap .i64 (.wrap .i32 (.wrap .u32 (.sub (.wrap .u32 (.nth (.var 0) (.wrap .i64 (.add (.var 0) (.lit 1))))) (.wrap .u32 (.nth (.var 0) (.var 0))))))))), true), ((.lt (.var (nRg + 0)) (.lit 0)), false), ((.lt (.lit 300) (.var (nRg + 0))), false), ((.lt (.len (.var (nRg + 2))) (.lit 1000)), true), ((.lt (.var 1) (.wrap .i64 (.wrap .i32 (.wrap .u32 (.sub (.wrap .u32 (.nth (.var 0) (.wrap .i64 (.add (.var 0) (.lit 1))))) (.wrap .u32 (.nth (.var 0) (.var 0)))))))), false), ((.lt (.wrap .i64 (.wrap .i32 (.wrap .u32 (.sub (.wrap .u32 (.nth (.var 0) (.wrap .i64 (.add (.var 0) (.lit 1))))) (.wrap .u32 (.nth (.var 0) (.var 0))))))) (.lit 0)), false), ((.lt (.wrap .i64 (.add (.var 0) (.lit 1))) (.len (.var 0))), true), ((.lt (.wrap .i64 (.add (.var 0) (.lit 1))) (.lit 0)), false), ((.lt (.var 0) (.len (.var 0))), true), ((.lt (.len (.var 0)) (.lit 1099511627776)), true), ((.lt (.wrap .i64 (.add (.wrap .i64 (.add (.var 0) (.var 1))) (.lit 1))) (.len (.var 0))), true), ((.lt (.var 0) (.wrap .i64 (.sub (.wrap .i64 (.sub (.lit 65536) (.var 1))) (.lit 1)))), true), ((.lt (.var 0) (.lit 0)), false), ((.eq (.bits 0 .i64 (.var 1) (.wrap .i64 (.sub (.var 1) (.lit 1)))) (.lit 0)), true), ((.lt (.lit 256) (.var 1)), false), ((.lt (.var 1) (.lit 2)), false)]⟩,
  ⟨.bad, 0, ⟨[], [], [], [], [], [], [], []⟩, [((.lt (.wrap .i64 (.add (.wrap .i64 (.add (.var 0) (.lit 2))) (.wrap .i64 (.bits 0 .u32 (.wrap .u32 (.add (.wrap .u32 (.nth (.var 0) (.var 0))) (.var (nRg + 0)))) (.wrap .u32 (.wrap .i64 (.sub (.var 1) (.lit 1)))))))) (.len (.var 0))), false), ((.lt (.wrap .i64 (.add (.wrap .i64 (.add (.var 0) (.lit 2))) (.wrap .i64 (.bits 0 .u32 (.wrap .u32 (.add (.wrap .u32 (.nth (.var 0) (.var 0))) (.var (nRg + 0)))) (.wrap .u32 (.wrap .i64 (.sub (.var 1) (.lit 1)))))))) (.lit 0)), false), ((.lt (.var (nRg + 0)) (.wrap .u32 (.wrap .i64 (.wrap .i32 (.wrap .u32 (.sub (.wrap .u32 (.nth (.var 0) (.wrap .i64 (.add (.var 0) (.lit 1))))) (.wrap .u32 (.nth (.var 0) (.var 0))))))))), true), ((.lt (.var (nRg + 0)) (.lit 0)), false), ((.lt (.lit 300) (.var (nRg + 0))), false), ((.lt (.len (.var (nRg + 2))) (.lit 1000)), true), ((.lt (.var 1) (.wrap .i64 (.wrap .i32 (.wrap .u32 (.sub (.wrap .u32 (.nth (.var 0) (.wrap .i64 (.add (.var 0) (.lit 1))))) (.wrap .u32 (.nth (.var 0) (.var 0)))))))), false), ((.lt (.wrap .i64 (.wrap .i32 (.wrap .u32 (.sub (.wrap .u32 (.nth (.var 0) (.wrap .i64 (.add (.var 0) (.lit 1))))) (.wrap .u32 (.nth (.var 0) (.var 0))))))) (.lit 0)), false), ((.lt (.wrap .i64 (.add (.var 0) (.lit 1))) (.len (.var 0))), true), ((.lt (.wrap .i64 (.add (.var 0) (.lit 1))) (.lit 0)), false), ((.lt (.var 0) (.len (.var 0))), true), ((.lt (.len (.var 0)) (.lit 1099511627776)), true), ((.lt (.wrap .i64 (.add (.wrap .i64 (.add (.var 0) (.var 1))) (.lit 1))) (.len (.var 0))), true), ((.lt (.var 0) (.wrap .i64 (.sub (.wrap .i64 (.sub (.lit 65536) (.var 1))) (.lit 1)))), true), ((.lt (.var 0) (.lit 0)), false), ((.eq (.bits 0 .i64 (.var 1) (.wrap .i64 (.sub (.var 1) (.lit 1)))) (.lit 0)), true), ((.lt (.lit 256) (.var 1)), false), ((.lt (.var 1) (.lit 2)), false)]⟩,
  ⟨.bad, 0, ⟨[], [], [], [], [], [], [], []⟩, [((.lt (.add (.len (.var (nRg + 2))) (.lit 1)) (.lit 1099511627776)), false), ((.lt (.wrap .i64 (.add (.wrap .i64 (.add (.var 0) (.lit 2))) (.wrap .i64 (.bits 0 .u32 (.wrap .u32 (.add (.wrap .u32 (.nth (.var 0) (.var 0))) (.var (nRg + 0)))) (.wrap .u32 (.wrap .i64 (.sub (.var 1) (.lit 1)))))))) (.len (.var 0))), true), ((.lt (.wrap .i64 (.add (.wrap .i64 (.add (.var 0) (.lit 2))) (.wrap .i64 (.bits 0 .u32 (.wrap .u32 (.add (.wrap .u32 (.nth (.var 0) (.var 0))) (.var (nRg + 0)))) (.wrap .u32 (.wrap .i64 (.sub (.var 1) (.lit 1)))))))) (.lit 0)), false), ((.lt (.var (nRg + 0)) (.wrap .u32 (.wrap .i64 (.wrap .i32 (.wrap .u32 (.sub (.wrap .u32 (.nth (.var 0) (.wrap .i64 (.add (.var 0) (.lit 1))))) (.wrap .u32 (.nth (.var 0) (.var 0))))))))), true), ((.lt (.var (nRg + 0)) (.lit 0)), false), ((.lt (.lit 300) (.var (nRg + 0))), false), ((.lt (.len (.var (nRg + 2))) (.lit 1000)), true), ((.lt (.var 1) (.wrap .i64 (.wrap .i32 (.wrap .u32 (.sub (.wrap .u32 (.nth (.var 0) (.wrap .i64 (.add (.var 0) (.lit 1))))) (.wrap .u32 (.nth (.var 0) (.var 0)))))))), false), ((.lt (.wrap .i64 (.wrap .i32 (.wrap .u32 (.sub (.wrap .u32 (.nth (.var 0) (.wrap .i64 (.add (.var 0) (.lit 1))))) (.wrap .u32 (.nth (.var 0) (.var 0))))))) (.lit 0)), false), ((.lt (.wrap .i64 (.add (.var 0) (.lit 1))) (.len (.var 0))), true), ((.lt (.wrap .i64 (.add (.var 0) (.lit 1))) (.lit 0)), false), ((.lt (.var 0) (.len (.var 0))), true), ((.lt (.len (.var 0)) (.lit 1099511627776)), true), ((.lt (.wrap .i64 (.add (.wrap .i64 (.add (.var 0) (.var 1))) (.lit 1))) (.len (.var 0))), true), ((.lt (.var 0) (.wrap .i64 (.sub (.wrap .i64 (.sub (.lit 65536) (.var 1))) (.lit 1)))), true), ((.lt (.var 0) (.lit 0)), false), ((.eq (.bits 0 .i64 (.var 1) (.wrap .i64 (.sub (.var 1) (.lit 1)))) (.lit 0)), true), ((.lt (.lit 256) (.var 1)), false), ((.lt (.var 1) (.lit 2)), false)]⟩,
  ⟨.normal, 0, ⟨[((nRg + 2), 5260135901548373507240989951031772368851768153430960612761911647297149072646864467642342519116870225872586365324966789620252149639545893567131976302309842112518221327862476873679403354177172656337685668744396800)], [(0, (.wrap .u32 (.add (.var (nRg + 0)) (.lit 1)))), (2, (.var 5260135901548373507240989951031772368851768153430960612761911647297149072646864467642342519116870225872586365324966789620252149639545893567131976302309842112518221327862476873679403354177172656337685668744396800))], [(2, (.app (.var (nRg + 2)) (.cons (.nth (.var 0) (.wrap .i64 (.add (.wrap .i64 (.add (.var 0) (.lit 2))) (.wrap .i64 (.bits 0 .u32 (.wrap .u32 (.add (.wrap .u32 (.nth (.var 0) (.var 0))) (.var (nRg + 0)))) (.wrap .u32 (.wrap .i64 (.sub (.var 1) (.lit 1))))))))) .nil)))], [], [((.add (.len (.var (nRg + 2))) (.lit 1)), (.len (.var (nRg + 2))))], [], [], []⟩, [((.lt (.add (.len (.var (nRg + 2))) (.lit 1)) (.lit 1099511627776)), true), ((.lt (.wrap .i64 (.add (.wrap .i64 (.add (.var 0) (.lit 2))) (.wrap .i64 (.bits 0 .u32 (.wrap .u32 (.add (.wrap .u32 (.nth (.var 0) (.var 0))) (.var (nRg + 0)))) (.wrap .u32 (.wrap .i64 (.sub (.var 1) (.lit 1)))))))) (.len (.var 0))), true), ((.lt (.wrap .i64 (.add (.wrap .i64 (.add (.var 0) (.lit 2))) (.wrap .i64 (.bits 0 .u32 (.wrap .u32 (.add (.wrap .u32 (.nth (.var 0) (.var 0))) (.var (nRg + 0)))) (.wrap .u32 (.wrap .i64 (.sub (.var 1) (.lit 1)))))))) (.lit 0)), false), ((.lt (.var (nRg + 0)) (.wrap .u32 (.wrap .i64 (.wrap .i32 (.wrap .u32 (.sub (.wrap .u32 (.nth (.var 0) (.wrap .i64 (.add (.var 0) (.lit 1))))) (.wrap .u32 (.nth (.var 0) (.var 0))))))))), true), ((.lt (.var (nRg + 0)) (.lit 0)), false), ((.lt (.lit 300) (.var (nRg + 0))), false), ((.lt (.len (.var (nRg + 2))) (.lit 1000)), true), ((.lt (.var 1) (.wrap .i64 (.wrap .i32 (.wrap .u32 (.sub (.wrap .u32 (.nth (.var 0) (.wrap .i64 (.add (.var 0) (.lit 1))))) (.wrap .u32 (.nth (.var 0) (.var 0)))))))), false), ((.lt (.wrap .i64 (.wrap .i32 (.wrap .u32 (.sub (.wrap .u32 (.nth (.var 0) (.wrap .i64 (.add (.var 0) (.lit 1))))) (.wrap .u32 (.nth (.var 0) (.var 0))))))) (.lit 0)), false), ((.lt (.wrap .i64 (.add (.var 0) (.lit 1))) (.len (.var 0))), true), ((.lt (.wrap .i64 (.add (.var 0) (.lit 1))) (.lit 0)), false), ((.lt (.var 0) (.len (.var 0))), true), ((.lt (.len (.var 0)) (.lit 1099511627776)), true), ((.lt (.wrap .i64 (.add (.wrap .i64 (.add (.var 0) (.var 1))) (.lit 1))) (.len (.var 0))), true), ((.lt (.var 0) (.wrap .i64 (.sub (.wrap .i64 (.sub (.lit 65536) (.var 1))) (.lit 1)))), true), ((.lt (.var 0) (.lit 0)), false), ((.eq (.bits 0 .i64 (.var 1) (.wrap .i64 (.sub (.var 1) (.lit 1)))) (.lit 0)), true), ((.lt (.lit 256) (.var 1)), false), ((.lt (.var 1) (.lit 2)), false)]⟩,
  ⟨.exit 1, 0, ⟨[((nRg + 2), (nRg + 2))], [(2, (.var (nRg + 2)))], [], [], [((.len (.var (nRg + 2))), (.len (.gl 0 (.app 42 (.var 0) (.var 0) (.var 0) (.var 1) (.nth (.var 0) (.var 0)) (.wrap .i64 (.wrap .i32 (.wrap .u32 (.sub (.wrap .u32 (.nth (.var 0) (.wrap .i64 (.add (.var 0) (.lit 1))))) (.wrap .u32 (.nth (.var 0) (.var 0))))))) (.var 0)) (.lit 0) (.lit 0))))], [((.var (nRg + 2)), (.gl 0 (.app 42 (.var 0) (.var 0) (.var 0) (.var 1) (.nth (.var 0) (.var 0)) (.wrap .i64 (.wrap .i32 (.wrap .u32 (.sub (.wrap .u32 (.nth (.var 0) (.wrap .i64 (.add (.var 0) (.lit 1))))) (.wrap .u32 (.nth (.var 0) (.var 0))))))) (.var 0)) (.lit 0) (.lit 0)))], [], []⟩, [((.lt (.var (nRg + 0)) (.wrap .u32 (.wrap .i64 (.wrap .i32 (.wrap .u32 (.sub (.wrap .u32 (.nth (.var 0) (.wrap .i64 (.add (.var 0) (.lit 1))))) (.wrap .u32 (.nth (.var 0) (.var 0))))))))), false), ((.lt (.var (nRg + 0)) (.lit 0)), false), ((.lt (.lit 300) (.var (nRg + 0))), false), ((.lt (.len (.var (nRg + 2))) (.lit 1000)), true), ((.lt (.var 1) (.wrap .i64 (.wrap .i32 (.wrap .u32 (.sub (.wrap .u32 (.nth (.var 0) (.wrap .i64 (.add (.var 0) (.lit 1))))) (.wrap .u32 (.nth (.var 0) (.var 0)))))))), false), ((.lt (.wrap .i64 (.wrap .i32 (.wrap .u32 (.sub (.wrap .u32 (.nth (.var 0) (.wrap .i64 (.add (.var 0) (.lit 1))))) (.wrap .u32 (.nth (.var 0) (.var 0))))))) (.lit 0)), false), ((.lt (.wrap .i64 (.add (.var 0) (.lit 1))) (.len (.var 0))), true), ((.lt (.wrap .i64 (.add (.var 0) (.lit 1))) (.lit 0)), false), ((.lt (.var 0) (.len (.var 0))), true), ((.lt (.len (.var 0)) (.lit 1099511627776)), true), ((.lt (.wrap .i64 (.add (.wrap .i64 (.add (.var 0) (.var 1))) (.lit 1))) (.len (.var 0))), true), ((.lt (.var 0) (.wrap .i64 (.sub (.wrap .i64 (.sub (.lit 65536) (.var 1))) (.lit 1)))), true), ((.lt (.var 0) (.lit 0)), false), ((.eq (.bits 0 .i64 (.var 1) (.wrap .i64 (.sub (.var 1) (.lit 1)))) (.lit 0)), true), ((.lt (.lit 256) (.var 1)), false), ((.lt (.var 1) (.lit 2)), false)]⟩]
def ouRg : List CLeaf := [
  ⟨false, (.tup [.nilSl, (.int .i64 (.lit 2))]), [((.lt (.var 0) (.wrap .i64 (.sub (.wrap .i64 (.sub (.lit 65536) (.var 1))) (.lit 1)))), false), ((.lt (.var 0) (.lit 0)), false), ((.eq (.bits 0 .i64 (.var 1) (.wrap .i64 (.sub (.var 1) (.lit 1)))) (.lit 0)), true), ((.lt (.lit 256) (.var 1)), false), ((.lt (.var 1) (.lit 2)), false)], [(0, (.cells [(.sl 1 (.lit 0) (.len (.var 0)) (.var 2))] 54 true)), (1, (.row .u64 (.var 0) (.var 2) 41))]⟩,
  ⟨false, (.tup [.nilSl, (.int .i64 (.lit 3))]), [((.lt (.wrap .i64 (.add (.wrap .i64 (.add (.var 0) (.var 1))) (.lit 1))) (.len (.var 0))), false), ((.lt (.var 0) (.wrap .i64 (.sub (.wrap .i64 (.sub (.lit 65536) (.var 1))) (.lit 1)))), true), ((.lt (.var 0) (.lit 0)), false), ((.eq (.bits 0 .i64 (.var 1) (.wrap .i64 (.sub (.var 1) (.lit 1)))) (.lit 0)), true), ((.lt (.lit 256) (.var 1)), false), ((.lt (.var 1) (.lit 2)), false)], [(0, (.cells [(.sl 1 (.lit 0) (.len (.var 0)) (.var 2))] 54 true)), (1, (.row .u64 (.var 0) (.var 2) 41))]⟩,
  ⟨true, (.tup []), [((.lt (.len (.var 0)) (.lit 1099511627776)), false), ((.lt (.wrap .i64 (.add (.wrap .i64 (.add (.var 0) (.var 1))) (.lit 1))) (.len (.var 0))), true), ((.lt (.var 0) (.wrap .i64 (.sub (.wrap .i64 (.sub (.lit 65536) (.var 1))) (.lit 1)))), true), ((.lt (.var 0) (.lit 0)), false), ((.eq (.bits 0 .i64 (.var 1) (.wrap .i64 (.sub (.var 1) (.lit 1)))) (.lit 0)), true), ((.lt (.lit 256) (.var 1)), false), ((.lt (.var 1) (.lit 2)), false)], []⟩,
  ⟨true, (.tup []), [((.lt (.var 0) (.len (.var 0))), false), ((.lt (.len (.var 0)) (.lit 1099511627776)), true), ((.lt (.wrap .i64 (.add (.wrap .i64 (.add (.var 0) (.var 1))) (.lit 1))) (.len (.var 0))), true), ((.lt (.var 0) (.wrap .i64 (.sub (.wrap .i64 (.sub (.lit 65536) (.var 1))) (.lit 1)))), true), ((.lt (.var 0) (.lit 0)), false), ((.eq (.bits 0 .i64 (.var 1) (.wrap .i64 (.sub (.var 1) (.lit 1)))) (.lit 0)), true), ((.lt (.lit 256) (.var 1)), false), ((.lt (.var 1) (.lit 2)), false)], []⟩,
  ⟨true, (.tup []), [((.lt (.wrap .i64 (.add (.var 0) (.lit 1))) (.lit 0)), true), ((.lt (.var 0) (.len (.var 0))), true), ((.lt (.len (.var 0)) (.lit 1099511627776)), true), ((.lt (.wrap .i64 (.add (.wrap .i64 (.add (.var 0) (.var 1))) (.lit 1))) (.len (.var 0))), true), ((.lt (.var 0) (.wrap .i64 (.sub (.wrap .i64 (.sub (.lit 65536) (.var 1))) (.lit 1)))), true), ((.lt (.var 0) (.lit 0)), false), ((.eq (.bits 0 .i64 (.var 1) (.wrap .i64 (.sub (.var 1) (.lit 1)))) (.lit 0)), true), ((.lt (.lit 256) (.var 1)), false), ((.lt (.var 1) (.lit 2)), false)], []⟩,
  ⟨true, (.tup []), [((.lt (.wrap .i64 (.add (.var 0) (.lit 1))) (.len (.var 0))), false), ((.lt (.wrap .i64 (.add (.var 0) (.lit 1))) (.lit 0)), false), ((.lt (.var 0) (.len (.var 0))), true), ((.lt (.len (.var 0)) (.lit 1099511627776)), true), ((.lt (.wrap .i64 (.add (.wrap .i64 (.add (.var 0) (.var 1))) (.lit 1))) (.len (.var 0))), true), ((.lt (.var 0) (.wrap .i64 (.sub (.wrap .i64 (.sub (.lit 65536) (.var 1))) (.lit 1)))), true), ((.lt (.var 0) (.lit 0)), false), ((.eq (.bits 0 .i64 (.var 1) (.wrap .i64 (.sub (.var 1) (.lit 1)))) (.lit 0)), true), ((.lt (.lit 256) (.var 1)), false), ((.lt (.var 1) (.lit 2)), false)], []⟩,
  ⟨false, (.tup [.nilSl, (.int .i64 (.lit 9))]), [((.lt (.wrap .i64 (.wrap .i32 (.wrap .u32 (.sub (.wrap .u32 (.nth (.var 0) (.wrap .i64 (.add (.var 0) (.lit 1))))) (.wrap .u32 (.nth (.var 0) (.var 0))))))) (.lit 0)), true), ((.lt (.wrap .i64 (.add (.var 0) (.lit 1))) (.len (.var 0))), true), ((.lt (.wrap .i64 (.add (.var 0) (.lit 1))) (.lit 0)), false), ((.lt (.var 0) (.len (.var 0))), true), ((.lt (.len (.var 0)) (.lit 1099511627776)), true), ((.lt (.wrap .i64 (.add (.wrap .i64 (.add (.var 0) (.var 1))) (.lit 1))) (.len (.var 0))), true), ((.lt (.var 0) (.wrap .i64 (.sub (.wrap .i64 (.sub (.lit 65536) (.var 1))) (.lit 1)))), true), ((.lt (.var 0) (.lit 0)), false), ((.eq (.bits 0 .i64 (.var 1) (.wrap .i64 (.sub (.var 1) (.lit 1)))) (.lit 0)), true), ((.lt (.lit 256) (.var 1)), false), ((.lt (.var 1) (.lit 2)), false)], [(0, (.cells [(.sl 1 (.lit 0) (.len (.var 0)) (.var 2))] 54 true)), (1, (.row .u64 (.var 0) (.var 2) 41)), (4149515568907425437526880652735680015385233752756462778006859475298683036248235919488470098102647483335564312748276870076664669818648328546807893640373694713694388670062981101387776, (.row .u64 (.var 0) (.var 4149515568907425437526880652735680015385233752756462778006859475298683036248235919488470098102647483335564312748276870076664669818648328546807893640373694713694388670062981101387776) 41))]⟩,
  ⟨false, (.tup [.nilSl, (.int .i64 (.lit 9))]), [((.lt (.var 1) (.wrap .i64 (.wrap .i32 (.wrap .u32 (.sub (.wrap .u32 (.nth (.var 0) (.wrap .i64 (.add (.var 0) (.lit 1))))) (.wrap .u32 (.nth (.var 0) (.var 0)))))))), true), ((.lt (.wrap .i64 (.wrap .i32 (.wrap .u32 (.sub (.wrap .u32 (.nth (.var 0) (.wrap .i64 (.add (.var 0) (.lit 1))))) (.wrap .u32 (.nth (.var 0) (.var 0))))))) (.lit 0)), false), ((.lt (.wrap .i64 (.add (.var 0) (.lit 1))) (.len (.var 0))), true), ((.lt (.wrap .i64 (.add (.var 0) (.lit 1))) (.lit 0)), false), ((.lt (.var 0) (.len (.var 0))), true), ((.lt (.len (.var 0)) (.lit 1099511627776)), true), ((.lt (.wrap .i64 (.add (.wrap .i64 (.add (.var 0) (.var 1))) (.lit 1))) (.len (.var 0))), true), ((.lt (.var 0) (.wrap .i64 (.sub (.wrap .i64 (.sub (.lit 65536) (.var 1))) (.lit 1)))), true), ((.lt (.var 0) (.lit 0)), false), ((.eq (.bits 0 .i64 (.var 1) (.wrap .i64 (.sub (.var 1) (.lit 1)))) (.lit 0)), true), ((.lt (.lit 256) (.var 1)), false), ((.lt (.var 1) (.lit 2)), false)], [(0, (.cells [(.sl 1 (.lit 0) (.len (.var 0)) (.var 2))] 54 true)), (1, (.row .u64 (.var 0) (.var 2) 41)), (4149515568907425437526880652735680015385233752756462778006859475298683036248235919488470098102647483335564312748276870076664669818648328546807893640373694713694388670062981101387776, (.row .u64 (.var 0) (.var 4149515568907425437526880652735680015385233752756462778006859475298683036248235919488470098102647483335564312748276870076664669818648328546807893640373694713694388670062981101387776) 41))]⟩,
  ⟨false, (.tup [(.sl (nRg + 2) (.lit 0) (.len (.gl 0 (.app 42 (.var 0) (.var 0) (.var 0) (.var 1) (.nth (.var 0) (.var 0)) (.wrap .i64 (.wrap .i32 (.wrap .u32 (.sub (.wrap .u32 (.nth (.var 0) (.wrap .i64 (.add (.var 0) (.lit 1))))) (.wrap .u32 (.nth (.var 0) (.var 0))))))) (.var 0)) (.lit 0) (.lit 0))) (.var (nRg + 2))), (.int .i64 (.lit 0))]), [((.lt (.lit 0) (.wrap .i64 (.wrap .i32 (.wrap .u32 (.sub (.wrap .u32 (.nth (.var 0) (.wrap .i64 (.add (.var 0) (.lit 1))))) (.wrap .u32 (.nth (.var 0) (.var 0)))))))), true), ((.lt (.var 1) (.wrap .i64 (.wrap .i32 (.wrap .u32 (.sub (.wrap .u32 (.nth (.var 0) (.wrap .i64 (.add (.var 0) (.lit 1))))) (.wrap .u32 (.nth (.var 0) (.var 0)))))))), false), ((.lt (.wrap .i64 (.wrap .i32 (.wrap .u32 (.sub (.wrap .u32 (.nth (.var 0) (.wrap .i64 (.add (.var 0) (.lit 1))))) (.wrap .u32 (.nth (.var 0) (.var 0))))))) (.lit 0)), false), ((.lt (.wrap .i64 (.add (.var 0) (.lit 1))) (.len (.var 0))), true), ((.lt (.wrap .i64 (.add (.var 0) (.lit 1))) (.lit 0)), false), ((.lt (.var 0) (.len (.var 0))), true), ((.lt (.len (.var 0)) (.lit 1099511627776)), true), ((.lt (.wrap .i64 (.add (.wrap .i64 (.add (.var 0) (.var 1))) (.lit 1))) (.len (.var 0))), true), ((.lt (.var 0) (.wrap .i64 (.sub (.wrap .i64 (.sub (.lit 65536) (.var 1))) (.lit 1)))), true), ((.lt (.var 0) (.lit 0)), false), ((.eq (.bits 0 .i64 (.var 1) (.wrap .i64 (.sub (.var 1) (.lit 1)))) (.lit 0)), true), ((.lt (.lit 256) (.var 1)), false), ((.lt (.var 1) (.lit 2)), false)], [(0, (.cells [(.sl 1 (.lit 0) (.len (.var 0)) (.var 2))] 54 true)), (1, (.row .u64 (.var 0) (.var 2) 41)), (4149515568907425437526880652735680015385233752756462778006859475298683036248235919488470098102647483335564312748276870076664669818648328546807893640373694713694388670062981101387776, (.row .u64 (.var 0) (.var 4149515568907425437526880652735680015385233752756462778006859475298683036248235919488470098102647483335564312748276870076664669818648328546807893640373694713694388670062981101387776) 41)), ((nRg + 2), (.row .u64 (.gl 0 (.app 42 (.var 0) (.var 0) (.var 0) (.var 1) (.nth (.var 0) (.var 0)) (.wrap .i64 (.wrap .i32 (.wrap .u32 (.sub (.wrap .u32 (.nth (.var 0) (.wrap .i64 (.add (.var 0) (.lit 1))))) (.wrap .u32 (.nth (.var 0) (.var 0))))))) (.var 0)) (.lit 0) (.lit 0)) (.var (nRg + 2)) 41))]⟩,
  ⟨false, (.tup [.nilSl, (.int .i64 (.lit 0))]), [((.lt (.lit 0) (.wrap .i64 (.wrap .i32 (.wrap .u32 (.sub (.wrap .u32 (.nth (.var 0) (.wrap .i64 (.add (.var 0) (.lit 1))))) (.wrap .u32 (.nth (.var 0) (.var 0)))))))), false), ((.lt (.var 1) (.wrap .i64 (.wrap .i32 (.wrap .u32 (.sub (.wrap .u32 (.nth (.var 0) (.wrap .i64 (.add (.var 0) (.lit 1))))) (.wrap .u32 (.nth (.var 0) (.var 0)))))))), false), ((.lt (.wrap .i64 (.wrap .i32 (.wrap .u32 (.sub (.wrap .u32 (.nth (.var 0) (.wrap .i64 (.add (.var 0) (.lit 1))))) (.wrap .u32 (.nth (.var 0) (.var 0))))))) (.lit 0)), false), ((.lt (.wrap .i64 (.add (.var 0) (.lit 1))) (.len (.var 0))), true), ((.lt (.wrap .i64 (.add (.var 0) (.lit 1))) (.lit 0)), false), ((.lt (.var 0) (.len (.var 0))), true), ((.lt (.len (.var 0)) (.lit 1099511627776)), true), ((.lt (.wrap .i64 (.add (.wrap .i64 (.add (.var 0) (.var 1))) (.lit 1))) (.len (.var 0))), true), ((.lt (.var 0) (.wrap .i64 (.sub (.wrap .i64 (.sub (.lit 65536) (.var 1))) (.lit 1)))), true), ((.lt (.var 0) (.lit 0)), false), ((.eq (.bits 0 .i64 (.var 1) (.wrap .i64 (.sub (.var 1) (.lit 1)))) (.lit 0)), true), ((.lt (.lit 256) (.var 1)), false), ((.lt (.var 1) (.lit 2)), false)], [(0, (.cells [(.sl 1 (.lit 0) (.len (.var 0)) (.var 2))] 54 true)), (1, (.row .u64 (.var 0) (.var 2) 41)), (4149515568907425437526880652735680015385233752756462778006859475298683036248235919488470098102647483335564312748276870076664669818648328546807893640373694713694388670062981101387776, (.row .u64 (.var 0) (.var 4149515568907425437526880652735680015385233752756462778006859475298683036248235919488470098102647483335564312748276870076664669818648328546807893640373694713694388670062981101387776) 41))]⟩,
  ⟨true, (.tup []), [((.lt (.wrap .i64 (.add (.var 0) (.lit 1))) (.lit 0)), true), ((.lt (.len (.var 0)) (.lit 1099511627776)), true), ((.lt (.wrap .i64 (.add (.wrap .i64 (.add (.var 0) (.var 1))) (.lit 1))) (.len (.var 0))), true), ((.lt (.var 0) (.wrap .i64 (.sub (.wrap .i64 (.sub (.lit 65536) (.var 1))) (.lit 1)))), true), ((.lt (.var 0) (.lit 0)), false), ((.eq (.bits 0 .i64 (.var 1) (.wrap .i64 (.sub (.var 1) (.lit 1)))) (.lit 0)), true), ((.lt (.lit 256) (.var 1)), false), ((.lt (.var 1) (.lit 2)), false)], []⟩,
  ⟨true, (.tup []), [((.lt (.wrap .i64 (.add (.var 0) (.lit 1))) (.len (.var 0))), false), ((.lt (.wrap .i64 (.add (.var 0) (.lit 1))) (.lit 0)), false), ((.lt (.len (.var 0)) (.lit 1099511627776)), true), ((.lt (.wrap .i64 (.add (.wrap .i64 (.add (.var 0) (.var 1))) (.lit 1))) (.len (.var 0))), true), ((.lt (.var 0) (.wrap .i64 (.sub (.wrap .i64 (.sub (.lit 65536) (.var 1))) (.lit 1)))), true), ((.lt (.var 0) (.lit 0)), false), ((.eq (.bits 0 .i64 (.var 1) (.wrap .i64 (.sub (.var 1) (.lit 1)))) (.lit 0)), true), ((.lt (.lit 256) (.var 1)), false), ((.lt (.var 1) (.lit 2)), false)], []⟩,
  ⟨false, (.tup [.nilSl, (.int .i64 (.lit 2))]), [((.lt (.var 0) (.lit 0)), true), ((.eq (.bits 0 .i64 (.var 1) (.wrap .i64 (.sub (.var 1) (.lit 1)))) (.lit 0)), true), ((.lt (.lit 256) (.var 1)), false), ((.lt (.var 1) (.lit 2)), false)], [(0, (.cells [(.sl 1 (.lit 0) (.len (.var 0)) (.var 2))] 54 true)), (1, (.row .u64 (.var 0) (.var 2) 41))]⟩,
  ⟨false, (.tup [.nilSl, (.int .i64 (.lit 2))]), [((.eq (.bits 0 .i64 (.var 1) (.wrap .i64 (.sub (.var 1) (.lit 1)))) (.lit 0)), false), ((.lt (.lit 256) (.var 1)), false), ((.lt (.var 1) (.lit 2)), false)], [(0, (.cells [(.sl 1 (.lit 0) (.len (.var 0)) (.var 2))] 54 true)), (1, (.row .u64 (.var 0) (.var 2) 41))]⟩,
  ⟨false, (.tup [.nilSl, (.int .i64 (.lit 2))]), [((.lt (.lit 256) (.var 1)), true), ((.lt (.var 1) (.lit 2)), false)], [(0, (.cells [(.sl 1 (.lit 0) (.len (.var 0)) (.var 2))] 54 true)), (1, (.row .u64 (.var 0) (.var 2) 41))]⟩,
  ⟨false, (.tup [.nilSl, (.int .i64 (.lit 2))]), [((.lt (.var 1) (.lit 2)), true)], [(0, (.cells [(.sl 1 (.lit 0) (.len (.var 0)) (.var 2))] 54 true)), (1, (.row .u64 (.var 0) (.var 2) 41))]⟩]
theorem pcRg_eq : (eRg Tryz.prog).pc = pcRg := by kernel_rfl
theorem body0Rg : (body0R Tryz.prog).bind (sumsT Tryz.prog nRg LO7 SZ7 (tgRg Tryz.prog)) = some sums0Rg := by kernel_rfl
theorem body1Rg : (body1R Tryz.prog).bind (sumsT Tryz.prog nRg LO7 SZ7 (tgRg Tryz.prog)) = some sumsRg := by kernel_rfl
theorem oneRg : (loopsAt Tryz.prog fRg 14).length = 1 := by kernel_rfl
def oRg (P : Program) : Orac := noOrac.withLoop fRg 14 nRg (eRg P).fr (eRg P).hp (mkM nRg (gRg P) (bRg P))
theorem avRg : pav nRg (nRg + 64) pcRg = true := by kernel_rfl
theorem runRg : runX Tryz.prog (oRg Tryz.prog) fRg tRg.args tRg.pc tRg.hp = some ouRg := by kernel_rfl

/-- how many, of numbers. -/
def manyV (l : List Int) (at' : Int) : Int := IntKind.i64.wrap (IntKind.i32.wrap (IntKind.u32.wrap (IntKind.u32.wrap (l.getD (IntKind.i64.wrap (at' + 1)).toNat 0) - IntKind.u32.wrap (l.getD at'.toNat 0))))
structure FactsRg (ν : Env Gh) : Prop where
  at0 : 0 ≤ ν.i 0
  sz : Pow (ν.i 1)
  room : ν.i 0 + ν.i 1 + 1 < (ν.l 0).length
  len : (ν.l 0).length < 1099511627776
  n1 : 0 ≤ manyV (ν.l 0) (ν.i 0)
  n2 : manyV (ν.l 0) (ν.i 0) ≤ ν.i 1
theorem factsRg {ν : Env Gh} (h : pcDen ν pcRg) : FactsRg ν := by
  simp only [pcRg, pcDen_cons_iff, pcDen_nil_iff, SB.den, decide_eq_true_eq, decide_eq_false_iff_not, beq_iff_eq] at h
  simp only [SI.den, SL.den] at h
  obtain ⟨h1, h2, h3, h4, h5, h6, h7, h8, h9, h10, h11, h12, -⟩ := h
  have hp := (bits_iff _ (by omega) (by omega)).1 h10
  rw [wrapS (ν.i 0 + ν.i 1) (by omega) (by omega)] at h7
  rw [wrapS _ (by omega) (by omega)] at h7
  exact ⟨by omega, hp, by omega, by omega, by unfold manyV; omega, by unfold manyV; omega⟩
theorem bRg_pc {ν : Env Gh} (h : ∀ x ∈ bRg Tryz.prog, x.1.den ν ≠ x.2) : pcDen ν pcRg := by
  intro c b hm
  have := h (c, !b) (by unfold bRg; rw [pcRg_eq]; exact List.mem_map.2 ⟨(c, b), hm, rfl⟩)
  revert this
  simp only
  cases c.den ν <;> cases b <;> simp
theorem wrapW (x : Int) : IntKind.u32.wrap x = x % 4294967296 := by simp [IntKind.wrap, IntKind.bits, IntKind.signed]
/-- A mask of a power of two is a rest, of 32 bits. -/
theorem mask_mod32 (t c : Int) (h : Pow c) : bitsDen 0 .u32 t (IntKind.u32.wrap (IntKind.i64.wrap (c - 1))) = t % 4294967296 % c := by
  have key : ∀ k : Nat, k ≤ 8 → bitsDen 0 .u32 t (((2 ^ k - 1 : Nat)) : Int) = t % 4294967296 % ((2 ^ k : Nat) : Int) := by
    intro k hk
    have e1 : (BitVec.ofInt 32 t).toNat = (t % 4294967296).toNat := by
      rw [BitVec.toNat_ofInt]; rfl
    have hlt : 2 ^ k ≤ 256 := by
      calc 2 ^ k ≤ 2 ^ 8 := Nat.pow_le_pow_right (by omega) hk
        _ = 256 := rfl
    have hpos : 0 < 2 ^ k := Nat.pow_pos (by omega)
    have e2 : (BitVec.ofInt 32 ((2 ^ k - 1 : Nat) : Int)).toNat = 2 ^ k - 1 := by
      rw [BitVec.toNat_ofInt]; omega
    show IntKind.u32.wrap ((BitVec.ofInt 32 t &&& BitVec.ofInt 32 ((2 ^ k - 1 : Nat) : Int)).toNat : Int) = _
    rw [wrapW, BitVec.toNat_and, e1, e2, Nat.and_two_pow_sub_one_eq_mod]
    have h1 : 0 ≤ t % 4294967296 := Int.emod_nonneg _ (by omega)
    have h9 : t % 4294967296 < 4294967296 := Int.emod_lt_of_pos _ (by omega)
    generalize t % 4294967296 = u at h1 h9 ⊢
    obtain ⟨n, rfl⟩ : ∃ n : Nat, u = n := ⟨u.toNat, by omega⟩
    simp only [Int.toNat_natCast]
    have h2 : n % 2 ^ k < 2 ^ k := Nat.mod_lt _ hpos
    have h3 : ((n : Int) % ((2 ^ k : Nat) : Int)) = ((n % 2 ^ k : Nat) : Int) := rfl
    rw [h3]
    omega
  have w1 : IntKind.u32.wrap (IntKind.i64.wrap (c - 1)) = c - 1 := by
    rw [wrapW]
    unfold Pow at h
    rw [wrapS _ (by omega) (by omega)]
    omega
  rw [w1]
  unfold Pow at h
  rcases h with rfl | rfl | rfl | rfl | rfl | rfl | rfl | rfl
  · exact key 1 (by omega)
  · exact key 2 (by omega)
  · exact key 3 (by omega)
  · exact key 4 (by omega)
  · exact key 5 (by omega)
  · exact key 6 (by omega)
  · exact key 7 (by omega)
  · exact key 8 (by omega)
/-- The place of a word. -/
theorem idxRg (at' sz t : Int) (h0 : 0 ≤ at') (h1 : Pow sz) (h2 : at' < 2000000000000) : IntKind.i64.wrap (IntKind.i64.wrap (at' + 2) + IntKind.i64.wrap (bitsDen 0 .u32 t (IntKind.u32.wrap (IntKind.i64.wrap (sz - 1))))) = at' + 2 + t % 4294967296 % sz ∧ 0 ≤ t % 4294967296 % sz ∧ t % 4294967296 % sz < sz := by
  rw [mask_mod32 t sz h1]
  have hpos : 0 < sz ∧ sz ≤ 256 := by unfold Pow at h1; omega
  have a := Int.emod_nonneg (t % 4294967296) (show sz ≠ 0 by omega)
  have b := Int.emod_lt_of_pos (t % 4294967296) hpos.1
  rw [wrapS (at' + 2) (by omega) (by omega), wrapS (t % 4294967296 % sz) (by omega) (by omega), wrapS _ (by omega) (by omega)]
  exact ⟨rfl, a, b⟩
theorem dec_iff8 {p : Prop} {i : Decidable p} {b : Bool} : @decide p i = b ↔ (p ↔ b = true) := by
  by_cases h : p <;> cases b <;> simp [h]
theorem dec_and28 {x y a b : Int} {i : Decidable (x < y)} {j : Decidable (a < b)} {c : Bool} : (!@decide (x < y) i && !@decide (a < b) j) = c ↔ ((y ≤ x ∧ b ≤ a) ↔ c = true) := by
  by_cases h1 : x < y <;> by_cases h2 : a < b <;> cases c <;> simp [h1, h2] <;> omega
attribute [local irreducible] nmAt
theorem oRg_ok : OOK Tryz.prog (oRg Tryz.prog) inM := by
  have hp : ∀ {ν : Env Gh} {x : Vals Gh}, (∀ x ∈ bRg Tryz.prog, x.1.den ν ≠ x.2) → 0 ≤ x.i 0 → x.i 0 ≤ 300 → (x.l 2).length < 1000 → pcDen (ν.at nRg x) (pRg Tryz.prog) := by
    intro ν x h h0 h1 h2
    have rf : RF nRg ν x (ν.at nRg x) := RF.self rfl
    have h := bRg_pc h
    have hold : pcDen (ν.at nRg x) pcRg := pcDen_agree (at_agree (ρ := fun _ => 0) (ρ' := fun _ => 0) (fun _ _ => rfl)) avRg h
    unfold pRg
    rw [pcRg_eq]
    simp only [pcDen_cons_iff, SB.den, decide_eq_true_eq, decide_eq_false_iff_not]
    have r0 : (ν.at nRg x).i nRg = x.i 0 := rf.i 0 (by decide)
    simp only [SI.den, SL.den, r0, rf.l 2 (by decide)]
    exact ⟨by omega, by omega, by omega, hold⟩
  refine loopP_ok pr noOrac_ok (rfl : nRg = nmAt 14) (by decide +kernel) oneRg (ghL []) body1Rg body0Rg
    (fun ν x => ∃ d : Nat, 1 ≤ d ∧ (d : Int) ≤ manyV (ν.l 0) (ν.i 0) ∧ x.i 0 = d ∧ x.l 2 = slotsG (ν.l 0) (ν.i 0) (ν.i 1) ((ν.l 0).getD (ν.i 0).toNat 0) d 4294967296 2 1)
    (fun ν x => (manyV (ν.l 0) (ν.i 0) - x.i 0).toNat) (fun ν => (manyV (ν.l 0) (ν.i 0)).toNat) ?_ ?_ noOrac_ok
  · intro t ht ν ν2 hI h rf hpc
    have F := factsRg (bRg_pc h)
    have F1 := F.at0
    have F2 := F.room
    have F3 := F.len
    have F4 := F.n2
    have F6 := F.n1
    have F5 : 2 ≤ ν.i 1 ∧ ν.i 1 ≤ 256 := by have := F.sz; unfold Pow at this; omega
    have hw : IntKind.u32.wrap (manyV (ν.l 0) (ν.i 0)) = manyV (ν.l 0) (ν.i 0) := by rw [wrapW]; omega
    have hidx := idxRg (ν.i 0) (ν.i 1) (IntKind.u32.wrap (IntKind.u32.wrap ((ν.l 0).getD (ν.i 0).toNat 0))) F1 F.sz (by omega)
    simp only [sums0Rg, List.mem_cons, List.not_mem_nil, or_false] at ht
    rcases ht with rfl | rfl | rfl | rfl
    all_goals
      simp only [pcDen_cons_iff, SB.den, decide_eq_true_eq, decide_eq_false_iff_not, beq_iff_eq] at hpc
      simp only [SI.den, SL.den, rf.io 0 (by decide), rf.io 1 (by decide), rf.lo 0 (by decide), hidx.1] at hpc
    · show False
      omega
    · show False
      omega
    · have hm : 0 < IntKind.u32.wrap (manyV (ν.l 0) (ν.i 0)) := hpc.2.2.1
      rw [hw] at hm
      generalize hy : Mt.vals _ (ghL []) ν2 = y
      have y0 : y.i 0 = 1 := by
        rw [← hy]
        simp only [Mt.vals, lkp_cons, lkp_nil, Nat.reduceEqDiff, reduceIte, SI.den]
      have y2 : y.l 2 = [(ν.l 0).getD (ν.i 0 + 2 + (ν.l 0).getD (ν.i 0).toNat 0 % 4294967296 % ν.i 1).toNat 0] := by
        rw [← hy]
        simp only [Mt.vals, lkp_cons, lkp_nil, Nat.reduceEqDiff, reduceIte, SI.den, SL.den, rf.io 0 (by decide), rf.io 1 (by decide), rf.lo 0 (by decide), hidx.1]
        simp only [wrapW, Int.emod_emod_of_dvd _ (Int.dvd_refl _)]
      refine ⟨⟨1, by omega, by omega, y0, ?_⟩, hp h (by omega) (by omega) (by rw [y2]; simp), by show _ < (manyV (ν.l 0) (ν.i 0)).toNat; omega, ?_⟩
      · rw [slotsG_step _ _ _ _ _ _ _ 0, y2]
        simp [slotsG]
      · constructor <;> simp [SI.den, SL.den, at_l, y2]
    · refine ⟨fun g hg => ?_, by constructor <;> simp⟩
      cases hg
      refine pcDen_one ?_
      have rf3 : ∀ y, RF nRg ν y (ν.at nRg y) := fun y => RF.self rfl
      have hm : ¬ 0 < IntKind.u32.wrap (manyV (ν.l 0) (ν.i 0)) := hpc.1
      rw [hw] at hm
      simp only [manyU, SB.den, decide_eq_false_iff_not]
      simp only [SI.den, SL.den, (rf3 _).io 0 (by decide), (rf3 _).lo 0 (by decide)]
      exact decide_eq_false hm
  · intro t ht ν x ν2 hI h hJ _ rf hpc
    have F := factsRg (bRg_pc h)
    have F1 := F.at0
    have F2 := F.room
    have F3 := F.len
    have F4 := F.n2
    have F6 := F.n1
    have F5 : 2 ≤ ν.i 1 ∧ ν.i 1 ≤ 256 := by have := F.sz; unfold Pow at this; omega
    have hw : IntKind.u32.wrap (manyV (ν.l 0) (ν.i 0)) = manyV (ν.l 0) (ν.i 0) := by rw [wrapW]; omega
    obtain ⟨d, d1, d2, j0, j2⟩ := hJ
    have r0 : ν2.i (nRg + 0) = x.i 0 := rf.i 0 (by decide)
    have hidx := idxRg (ν.i 0) (ν.i 1) (IntKind.u32.wrap (IntKind.u32.wrap ((ν.l 0).getD (ν.i 0).toNat 0) + x.i 0)) F1 F.sz (by omega)
    have hl : (x.l 2).length = d := by rw [j2, slotsG_length]; omega
    simp only [sumsRg, List.mem_cons, List.not_mem_nil, or_false] at ht
    rcases ht with rfl | rfl | rfl | rfl | rfl
    all_goals
      simp only [pcDen_cons_iff, SB.den, decide_eq_true_eq, decide_eq_false_iff_not, beq_iff_eq] at hpc
      simp only [SI.den, SL.den, r0, rf.l 2 (by decide), rf.io 0 (by decide), rf.io 1 (by decide), rf.lo 0 (by decide), hidx.1, hl] at hpc
    · show False
      omega
    · show False
      omega
    · show False
      omega
    · have hm : x.i 0 < IntKind.u32.wrap (manyV (ν.l 0) (ν.i 0)) := hpc.2.2.2.1
      rw [hw] at hm
      generalize hy : Mt.vals _ (ghL []) ν2 = y
      have y0 : y.i 0 = x.i 0 + 1 := by
        rw [← hy]
        simp only [Mt.vals, lkp_cons, lkp_nil, Nat.reduceEqDiff, reduceIte, SI.den, r0]
        rw [wrapW]; omega
      have y2 : y.l 2 = x.l 2 ++ [(ν.l 0).getD (ν.i 0 + 2 + ((ν.l 0).getD (ν.i 0).toNat 0 + x.i 0) % 4294967296 % ν.i 1).toNat 0] := by
        rw [← hy]
        simp only [Mt.vals, lkp_cons, lkp_nil, Nat.reduceEqDiff, reduceIte, SI.den, SL.den, r0, rf.l 2 (by decide), rf.io 0 (by decide), rf.io 1 (by decide), rf.lo 0 (by decide), hidx.1]
        rw [wrapW, wrapW, show ((ν.l 0).getD (ν.i 0).toNat 0 % 4294967296 + x.i 0) % 4294967296 % 4294967296 = ((ν.l 0).getD (ν.i 0).toNat 0 + x.i 0) % 4294967296 by omega]
      refine ⟨⟨d + 1, by omega, by omega, by rw [y0, j0]; omega, ?_⟩, hp h (by omega) (by omega) (by rw [y2]; simp [hl]; omega), by omega, ?_⟩
      · rw [slotsG_step, y2, j2, j0]
        simp only [List.append_cancel_left_eq, List.cons.injEq, and_true]
        rw [Int.one_mul]
      · constructor <;> simp [SI.den, SL.den, at_l, y2, rf.l 2 (by decide)]
    · have hm : ¬ x.i 0 < IntKind.u32.wrap (manyV (ν.l 0) (ν.i 0)) := hpc.1
      rw [hw] at hm
      have hd : (d : Int) = manyV (ν.l 0) (ν.i 0) := by omega
      have rf3 : ∀ y, RF nRg ν y (ν.at nRg y) := fun y => RF.self rfl
      refine ⟨fun g hg => ?_, ?_⟩
      · cases hg
        refine pcDen_one ?_
        simp only [manyU, SB.den, decide_eq_true_eq]
        simp only [SI.den, SL.den, (rf3 _).io 0 (by decide), (rf3 _).lo 0 (by decide)]
        exact decide_eq_true (show 0 < manyV (ν.l 0) (ν.i 0) by omega)
      · have e : ∀ y, (SL.gl 0 (.app 42 (.var 0) (.var 0) (.var 0) (.var 1) (.nth (.var 0) (.var 0)) manyU (.var 0)) (.lit 0) (.lit 0)).den (ν.at nRg y) = x.l 2 := by
          intro y
          simp only [manyU, SL.den, SG.den, SI.den, (rf3 _).I, hI, (rf3 _).io 0 (by decide), (rf3 _).io 1 (by decide), (rf3 _).lo 0 (by decide)]
          rw [j2, hd]
          rfl
        unfold manyU at e
        constructor
        · intro y hy
          simp only [List.mem_cons, List.not_mem_nil, or_false] at hy
          subst hy
          simp only [SI.den]
          rw [e]
          simp only [SL.den, rf.l 2 (by decide)]
        · intro y hy
          simp only [List.mem_cons, List.not_mem_nil, or_false] at hy
          subst hy
          simp only
          rw [e]
          simp only [SL.den, rf.l 2 (by decide)]
        · simp
        · simp
/-! in short -/
def shRg : List CLeaf := [
  ⟨false, .tup [.nilSl, .int .i64 (.lit 2)], [(rightB 1 (.var 0) (.var 1), false)], tRg.hp⟩,
  ⟨false, .tup [.nilSl, .int .i64 (.lit 3)], [(roomU, false), (rightB 1 (.var 0) (.var 1), true)], tRg.hp⟩,
  ⟨false, .tup [.nilSl, .int .i64 (.lit 9)], [(manyUB, false), (roomU, true), (rightB 1 (.var 0) (.var 1), true)], tRg.hp⟩,
  ⟨false, .tup [.sl (nRg + 2) (.lit 0) (.len (listU (.var 0) (.var 1) topU manyU (.var 0))) (.var (nRg + 2)), .int .i64 (.lit 0)], [(.lt (.lit 0) manyU, true), (manyUB, true), (roomU, true), (rightB 1 (.var 0) (.var 1), true)], tRg.hp ++ [(nRg + 2, .row .u64 (listU (.var 0) (.var 1) topU manyU (.var 0)) (.var (nRg + 2)) 41)]⟩,
  ⟨false, .tup [.nilSl, .int .i64 (.lit 0)], [(.lt (.lit 0) manyU, false), (manyUB, true), (roomU, true), (rightB 1 (.var 0) (.var 1), true)], tRg.hp⟩,
  ⟨true, .tup [], [(.lt (.len (.var 0)) (.lit 1099511627776), false)], []⟩]
theorem shRg_ok : ∀ c ∈ ouRg, ∀ ν : Env Gh, ν.I = inM → pcDen ν c.pc → ∃ c' ∈ shRg, c'.bad = c.bad ∧ (∀ ρ, c'.v.den ν ρ = c.v.den ν ρ) ∧ c'.hp.Sublist c.hp ∧ pcDen ν c'.pc := by
  intro c hc ν hI hp
  have hR : ∀ b : Bool, (rightB 1 (.var 0) (.var 1)).den ν = b ↔ (Right 1 (ν.i 0) (ν.i 1) ↔ b = true) := fun b => by
    have := rightB_den ν 1 (.var 0) (.var 1)
    simp only [SI.den] at this
    rw [← this]
    cases (rightB 1 (.var 0) (.var 1)).den ν <;> cases b <;> simp
  have arg : ¬ Right 1 (ν.i 0) (ν.i 1) → ∃ c' ∈ shRg, c'.bad = false ∧ (∀ ρ, c'.v.den ν ρ = (SV.tup [.nilSl, .int .i64 (.lit 2)]).den ν ρ) ∧ c'.hp.Sublist tRg.hp ∧ pcDen ν c'.pc := fun h =>
    ⟨_, List.mem_cons_self .., rfl, fun _ => rfl, List.Sublist.refl _, pcDen_one ((hR false).2 (by simp [h]))⟩
  have yes : Right 1 (ν.i 0) (ν.i 1) → (rightB 1 (.var 0) (.var 1)).den ν = true := fun h => (hR true).2 (by simp [h])
  have room : ∀ b : Bool, roomU.den ν = b ↔ ((ν.i 0 + ν.i 1 + 1 < ((ν.l 0).length : Int)) ↔ b = true) := fun b => by
    simp only [roomU, SB.den]
    simp only [SI.den, SL.den]
    exact dec_iff8
  have many : ∀ b : Bool, manyUB.den ν = b ↔ ((0 ≤ manyV (ν.l 0) (ν.i 0) ∧ manyV (ν.l 0) (ν.i 0) ≤ ν.i 1) ↔ b = true) := fun b => by
    simp only [manyUB, manyU, SB.den]
    simp only [SI.den, SL.den]
    exact dec_and28
  have pos : ∀ b : Bool, (SB.lt (.lit 0) manyU).den ν = b ↔ ((0 < manyV (ν.l 0) (ν.i 0)) ↔ b = true) := fun b => by
    simp only [manyU, SB.den]
    simp only [SI.den, SL.den]
    exact dec_iff8
  have big : ¬ ((ν.l 0).length : Int) < 1099511627776 → ∃ c' ∈ shRg, c'.bad = true ∧ (∀ ρ, c'.v.den ν ρ = (SV.tup []).den ν ρ) ∧ c'.hp.Sublist [] ∧ pcDen ν c'.pc := fun h =>
    ⟨_, List.mem_of_getElem? (show shRg[5]? = some _ from rfl), rfl, fun _ => rfl, List.Sublist.refl _, pcDen_one (by simp only [SB.den]; simp only [SI.den, SL.den]; exact decide_eq_false h)⟩
  -- what holds behind Right
  have right : bitsDen 0 .i64 (ν.i 1) (IntKind.i64.wrap (ν.i 1 - 1)) = 0 → ¬ 256 < ν.i 1 → ¬ ν.i 1 < 2 → ¬ ν.i 0 < 0 → ν.i 0 < IntKind.i64.wrap (IntKind.i64.wrap (65536 - ν.i 1) - 1) → Right 1 (ν.i 0) (ν.i 1) ∧ IntKind.i64.wrap (IntKind.i64.wrap (ν.i 0 + ν.i 1) + 1) = ν.i 0 + ν.i 1 + 1 ∧ IntKind.i64.wrap (ν.i 0 + 1) = ν.i 0 + 1 ∧ ν.i 0 < 65536 := by
    intro h1 h2 h3 h4 h5
    rw [wrapS (65536 - ν.i 1) (by omega) (by omega), wrapS _ (by omega) (by omega)] at h5
    refine ⟨⟨by omega, by omega, (bits_iff _ (by omega) (by omega)).1 h1⟩, ?_, wrapS _ (by omega) (by omega), by omega⟩
    rw [wrapS (ν.i 0 + ν.i 1) (by omega) (by omega), wrapS _ (by omega) (by omega)]
  have noPow : ¬ ν.i 1 < 2 → ¬ 256 < ν.i 1 → bitsDen 0 .i64 (ν.i 1) (IntKind.i64.wrap (ν.i 1 - 1)) ≠ 0 → ¬ Right 1 (ν.i 0) (ν.i 1) := fun h1 h2 h3 ⟨_, _, r3⟩ => h3 ((bits_iff _ (by omega) (by omega)).2 r3)
  simp only [ouRg, List.mem_cons, List.not_mem_nil, or_false] at hc
  rcases hc with rfl | rfl | rfl | rfl | rfl | rfl | rfl | rfl | rfl | rfl | rfl | rfl | rfl | rfl | rfl | rfl
  all_goals
    simp only [pcDen_cons_iff, SB.den, decide_eq_true_eq, decide_eq_false_iff_not, beq_iff_eq, beq_eq_false_iff_ne] at hp
    simp only [SI.den, SL.den] at hp
  · refine arg fun ⟨r1, r2, r3⟩ => ?_
    rw [wrapS (65536 - ν.i 1) (by omega) (by omega), wrapS _ (by omega) (by omega)] at hp
    omega
  · obtain ⟨h1, h2, h3, h4, h5, h6, -⟩ := hp
    obtain ⟨r, e1, e2, e3⟩ := right h4 h5 h6 h3 h2
    rw [e1] at h1
    exact ⟨_, List.mem_of_getElem? (show shRg[1]? = some _ from rfl), rfl, fun _ => rfl, List.Sublist.refl _, pcDen_cons ((room false).2 (by simp; omega)) (pcDen_one (yes r))⟩
  · exact big hp.1
  · obtain ⟨h1, h2, h3, h4, h5, h6, h7, h8, -⟩ := hp
    obtain ⟨r, e1, e2, e3⟩ := right h6 h7 h8 h5 h4
    have := r.2.2.le
    omega
  · obtain ⟨h1, h2, h3, h4, h5, h6, h7, h8, h9, -⟩ := hp
    obtain ⟨r, e1, e2, e3⟩ := right h7 h8 h9 h6 h5
    omega
  · obtain ⟨h1, h2, h3, h4, h5, h6, h7, h8, h9, h10, -⟩ := hp
    obtain ⟨r, e1, e2, e3⟩ := right h8 h9 h10 h7 h6
    have := r.2.2.le
    omega
  · obtain ⟨h1, h2, h3, h4, h5, h6, h7, h8, h9, h10, h11, -⟩ := hp
    obtain ⟨r, e1, e2, e3⟩ := right h9 h10 h11 h8 h7
    have h1 : manyV (ν.l 0) (ν.i 0) < 0 := h1
    exact ⟨_, List.mem_of_getElem? (show shRg[2]? = some _ from rfl), rfl, fun _ => rfl, .cons_cons _ (.cons_cons _ (.cons _ .slnil)), pcDen_cons ((many false).2 (by simp; omega)) (pcDen_cons ((room true).2 (by simp; omega)) (pcDen_one (yes r)))⟩
  · obtain ⟨h0, h1, h2, h3, h4, h5, h6, h7, h8, h9, h10, h11, -⟩ := hp
    obtain ⟨r, e1, e2, e3⟩ := right h9 h10 h11 h8 h7
    have h0 : ν.i 1 < manyV (ν.l 0) (ν.i 0) := h0
    exact ⟨_, List.mem_of_getElem? (show shRg[2]? = some _ from rfl), rfl, fun _ => rfl, .cons_cons _ (.cons_cons _ (.cons _ .slnil)), pcDen_cons ((many false).2 (by simp; omega)) (pcDen_cons ((room true).2 (by simp; omega)) (pcDen_one (yes r)))⟩
  · obtain ⟨h, h0, h1, h2, h3, h4, h5, h6, h7, h8, h9, h10, h11, -⟩ := hp
    obtain ⟨r, e1, e2, e3⟩ := right h9 h10 h11 h8 h7
    have h : 0 < manyV (ν.l 0) (ν.i 0) := h
    have h0 : ¬ ν.i 1 < manyV (ν.l 0) (ν.i 0) := h0
    have h1 : ¬ manyV (ν.l 0) (ν.i 0) < 0 := h1
    exact ⟨_, List.mem_of_getElem? (show shRg[3]? = some _ from rfl), rfl, fun _ => rfl, .cons_cons _ (.cons_cons _ (.cons _ (.cons_cons _ .slnil))), pcDen_cons ((pos true).2 (by simp; omega)) (pcDen_cons ((many true).2 (by simp; omega)) (pcDen_cons ((room true).2 (by simp; omega)) (pcDen_one (yes r))))⟩
  · obtain ⟨h, h0, h1, h2, h3, h4, h5, h6, h7, h8, h9, h10, h11, -⟩ := hp
    obtain ⟨r, e1, e2, e3⟩ := right h9 h10 h11 h8 h7
    have h : ¬ 0 < manyV (ν.l 0) (ν.i 0) := h
    have h0 : ¬ ν.i 1 < manyV (ν.l 0) (ν.i 0) := h0
    have h1 : ¬ manyV (ν.l 0) (ν.i 0) < 0 := h1
    exact ⟨_, List.mem_of_getElem? (show shRg[4]? = some _ from rfl), rfl, fun _ => rfl, .cons_cons _ (.cons_cons _ (.cons _ .slnil)), pcDen_cons ((pos false).2 (by simp; omega)) (pcDen_cons ((many true).2 (by simp; omega)) (pcDen_cons ((room true).2 (by simp; omega)) (pcDen_one (yes r))))⟩
  · obtain ⟨h2, h3, h4, h5, h6, h7, h8, h9, -⟩ := hp
    obtain ⟨r, e1, e2, e3⟩ := right h7 h8 h9 h6 h5
    omega
  · obtain ⟨h1, h2, h3, h4, h5, h6, h7, h8, h9, -⟩ := hp
    obtain ⟨r, e1, e2, e3⟩ := right h7 h8 h9 h6 h5
    have := r.2.2.le
    omega
  · exact arg fun ⟨r1, r2, r3⟩ => by omega
  · exact arg (noPow hp.2.2.1 hp.2.1 hp.1)
  · exact arg fun ⟨r1, r2, r3⟩ => by have := r3.le; omega
  · exact arg fun ⟨r1, r2, r3⟩ => by have := r3.le; omega
theorem rg_ok {O : Orac} (oo : OOK Tryz.prog O inM) : OOK Tryz.prog (O.withCallF fRg (sumK Tryz.prog tRg shRg)) inM := withCallF_ok oo (sum_okC pr oRg_ok runRg shRg_ok oo)
end Go.Proofs.YtiofchhmdkhfoaaGreat
end
