/- deque.Row.All: its state, its loop's head. -/
import Derived.Test.YtiofchhmdkhfoaaGreatSyXF
import Derived.Test.YtiofchhmdkhfoaaGreatLwXA
import Derived.Test.YtiofchhmdkhfoaaGreatSyXG
set_option linter.unusedVariables false
set_option linter.unusedSimpArgs false

section
namespace Go.Proofs.YtiofchhmdkhfoaaGreat
open Go Go.Sy Go.RowKit

def fDq : Nat := 78
def tDq : Tmpl := ⟨[.agg [.int .i64 (.var 0), .int .i64 (.var 1)], .ptr 0 (.lit 0)], [], [(0, .cells [.sl 1 (.lit 0) (.len (.var 0)) (.var 2)] 54 true), (1, .row .u64 (.var 0) (.var 2) 41)]⟩
def nDq : Nat := nmAt 13
def eDq (P : Program) : Leaf := capN 0 (capAll P noOrac fDq 13 tDq.args tDq.pc tDq.hp)
/-- top, and how many. -/
def topX : SI := .nth (.var 0) (.var 0)
def manyX : SI := .wrap .i64 (.wrap .u64 (.sub (.nth (.var 0) (.wrap .i64 (.add (.var 0) (.lit 1)))) (.nth (.var 0) (.var 0))))
def listX' (at' size top many : SI) (l : SL) : SL := .gl 0 (.app 40 (.var 0) (.var 0) at' size top many l) (.lit 0) (.lit 0)
def hDq (P : Program) : Leaf := hdFrom 11 (hdN nDq 10 2 .u64 41 (hdI nDq 9 1 (hdI nDq 7 0 (eDq P))))
/-- what is known at a round. -/
def pDq (P : Program) : PC := (.lt (.var (nDq + 1)) (.lit 0), false) :: (.lt (.lit 300) (.var (nDq + 1)), false) :: (.lt (.len (.var (nDq + 2))) (.lit 1000), true) :: (eDq P).pc
def xDq (P : Program) : Leaf := { hDq P with fr := (hDq P).fr.set 10 (.sl (nDq + 2) (.lit 0) (.len (listX' (.var 0) (.var 1) topX manyX (.var 0))) (.var (nDq + 2))), hp := hset (nDq + 2) (.row .u64 (listX' (.var 0) (.var 1) topX manyX (.var 0)) (.var (nDq + 2)) 41) (hDq P).hp }
def gDq (P : Program) : List Tgt := [⟨.exit 1, (xDq P).fr, (xDq P).hp, [(.lt (.lit 0) manyX, true)]⟩, ⟨.exit 1, hdFrom 11 (hdI nDq 9 1 (hdI nDq 7 0 (eDq P))) |>.fr, (eDq P).hp, [(.lt (.lit 0) manyX, false)]⟩]
def bDq (P : Program) : PC := (eDq P).pc.map fun x => (x.1, !x.2)
def body0 (P : Program) : Option (List Leaf) := codeX P noOrac LO7 SZ7 fDq 6000 0 (loopAt P fDq 13) (eDq P).fr ((bDq P).map fun x => (x.1, !x.2)) (eDq P).hp
def body1 (P : Program) : Option (List Leaf) := codeX P noOrac LO7 SZ7 fDq 6000 0 (loopAt P fDq 13) (hDq P).fr (pDq P) (hDq P).hp
def tgDq (P : Program) : List Tgt := ⟨.normal, (hDq P).fr, (hDq P).hp, pDq P⟩ :: gDq P
/-! what it says, in short -/
def manySB : SB := .and (.not (.lt manyX (.lit (-1)))) (.not (.lt (.var 1) manyX))
def roomB : SB := .lt (.add (.add (.var 0) (.var 1)) (.lit 1)) (.len (.var 0))
end Go.Proofs.YtiofchhmdkhfoaaGreat
end

section
namespace Go.Proofs.YtiofchhmdkhfoaaGreat
open Go Go.Sy Go.RowKit

def pcDq : PC := [((.lt (.var 1) (.wrap .i64 (.wrap .u64 (.sub (.nth (.var 0) (.wrap .i64 (.add (.var 0) (.lit 1)))) (.nth (.var 0) (.var 0)))))), false), ((.lt (.wrap .i64 (.wrap .u64 (.sub (.nth (.var 0) (.wrap .i64 (.add (.var 0) (.lit 1)))) (.nth (.var 0) (.var 0))))) (.lit (-1))), false), ((.lt (.wrap .i64 (.add (.var 0) (.lit 1))) (.len (.var 0))), true), ((.lt (.wrap .i64 (.add (.var 0) (.lit 1))) (.lit 0)), false), ((.lt (.var 0) (.len (.var 0))), true), ((.lt (.len (.var 0)) (.lit 1099511627776)), true), ((.lt (.wrap .i64 (.add (.wrap .i64 (.add (.var 0) (.var 1))) (.lit 1))) (.len (.var 0))), true), ((.lt (.var 0) (.wrap .i64 (.sub (.wrap .i64 (.sub (.lit 65536) (.var 1))) (.lit 1)))), true), ((.lt (.var 0) (.lit 0)), false), ((.eq (.bits 0 .i64 (.var 1) (.wrap .i64 (.sub (.var 1) (.lit 1)))) (.lit 0)), true), ((.lt (.lit 256) (.var 1)), false), ((.lt (.var 1) (.lit 2)), false)]
def sums0Dq : List SumT := [
  ⟨.bad, 0, ⟨[], [], [], [], [], [], [], []⟩, [((.lt (.wrap .i64 (.add (.wrap .i64 (.add (.var 0) (.lit 2))) (.wrap .i64 (.bits 0 .u64 (.nth (.var 0) (.var 0)) (.wrap .u64 (.wrap .i64 (.sub (.var 1) (.lit 1)))))))) (.lit 0)), true), ((.lt (.lit 0) (.wrap .i64 (.wrap .u64 (.sub (.nth (.var 0) (.wrap .i64 (.add (.var 0) (.lit 1)))) (.nth (.var 0) (.var 0)))))), true), ((.lt (.var 1) (.wrap .i64 (.wrap .u64 (.sub (.nth (.var 0) (.wrap .i64 (.add (.var 0) (.lit 1)))) (.nth (.var 0) (.var 0)))))), false), ((.lt (.wrap .i64 (.wrap .u64 (.sub (.nth (.var 0) (.wrap .i64 (.add (.var 0) (.lit 1)))) (.nth (.var 0) (.var 0))))) (.lit (-1))), false), ((.lt (.wrap .i64 (.add (.var 0) (.lit 1))) (.len (.var 0))), true), ((.lt (.wrap .i64 (.add (.var 0) (.lit 1))) (.lit 0)), false), ((.lt (.var 0) (.len (.var 0))), true), ((.lt (.len (.var 0)) (.lit 1099511627776)), true), ((.lt (.wrap .i64 (.add (.wrap .i64 (.add (.var 0) (.var 1))) (.lit 1))) (.len (.var 0))), true), ((.lt (.var 0) (.wrap .i64 (.sub (.wrap .i64 (.sub (.lit 65536) (.var 1))) (.lit 1)))), true), ((.lt (.var 0) (.lit 0)), false), ((.eq (.bits 0 .i64 (.var 1) (.wrap .i64 (.sub (.var 1) (.lit 1)))) (.lit 0)), true), ((.lt (.lit 256) (.var 1)), false), ((.lt (.var 1) (.lit 2)), false)]⟩,
  ⟨.bad, 0, ⟨[], [], [], [], [], [], [], []⟩, [((.lt (.wrap .i64 (.add (.wrap .i64 (.add (.var 0) (.lit 2))) (.wrap .i64 (.bits 0 .u64 (.nth (.var 0) (.var 0)) (.wrap .u64 (.wrap .i64 (.sub (.var 1) (.lit 1)))))))) (.len (.var 0))), false), ((.lt (.wrap .i64 (.add (.wrap .i64 (.add (.var 0) (.lit 2))) (.wrap .i64 (.bits 0 .u64 (.nth (.var 0) (.var 0)) (.wrap .u64 (.wrap .i64 (.sub (.var 1) (.lit 1)))))))) (.lit 0)), false), ((.lt (.lit 0) (.wrap .i64 (.wrap .u64 (.sub (.nth (.var 0) (.wrap .i64 (.add (.var 0) (.lit 1)))) (.nth (.var 0) (.var 0)))))), true), ((.lt (.var 1) (.wrap .i64 (.wrap .u64 (.sub (.nth (.var 0) (.wrap .i64 (.add (.var 0) (.lit 1)))) (.nth (.var 0) (.var 0)))))), false), ((.lt (.wrap .i64 (.wrap .u64 (.sub (.nth (.var 0) (.wrap .i64 (.add (.var 0) (.lit 1)))) (.nth (.var 0) (.var 0))))) (.lit (-1))), false), ((.lt (.wrap .i64 (.add (.var 0) (.lit 1))) (.len (.var 0))), true), ((.lt (.wrap .i64 (.add (.var 0) (.lit 1))) (.lit 0)), false), ((.lt (.var 0) (.len (.var 0))), true), ((.lt (.len (.var 0)) (.lit 1099511627776)), true), ((.lt (.wrap .i64 (.add (.wrap .i64 (.add (.var 0) (.var 1))) (.lit 1))) (.len (.var 0))), true), ((.lt (.var 0) (.wrap .i64 (.sub (.wrap .i64 (.sub (.lit 65536) (.var 1))) (.lit 1)))), true), ((.lt (.var 0) (.lit 0)), false), ((.eq (.bits 0 .i64 (.var 1) (.wrap .i64 (.sub (.var 1) (.lit 1)))) (.lit 0)), true), ((.lt (.lit 256) (.var 1)), false), ((.lt (.var 1) (.lit 2)), false)]⟩,
  ⟨.normal, 0, ⟨[((nDq + 2), 5260135901548373507240989946749472301766583420246155697432633339452304560972669586846824154876116524494465158240469115106841033934125674584269561866078046202693269210123222044873792829130033035227327840301088768)], [(2, (.var 5260135901548373507240989946749472301766583420246155697432633339452304560972669586846824154876116524494465158240469115106841033934125674584269561866078046202693269210123222044873792829130033035227327840301088768)), (1, (.wrap .i64 (.sub (.wrap .i64 (.wrap .u64 (.sub (.nth (.var 0) (.wrap .i64 (.add (.var 0) (.lit 1)))) (.nth (.var 0) (.var 0))))) (.lit 1)))), (0, (.wrap .u64 (.add (.nth (.var 0) (.var 0)) (.lit 1))))], [(2, (.cons (.nth (.var 0) (.wrap .i64 (.add (.wrap .i64 (.add (.var 0) (.lit 2))) (.wrap .i64 (.bits 0 .u64 (.nth (.var 0) (.var 0)) (.wrap .u64 (.wrap .i64 (.sub (.var 1) (.lit 1))))))))) .nil))], [], [((.lit 1), (.len (.var (nDq + 2))))], [], [], []⟩, [((.lt (.wrap .i64 (.add (.wrap .i64 (.add (.var 0) (.lit 2))) (.wrap .i64 (.bits 0 .u64 (.nth (.var 0) (.var 0)) (.wrap .u64 (.wrap .i64 (.sub (.var 1) (.lit 1)))))))) (.len (.var 0))), true), ((.lt (.wrap .i64 (.add (.wrap .i64 (.add (.var 0) (.lit 2))) (.wrap .i64 (.bits 0 .u64 (.nth (.var 0) (.var 0)) (.wrap .u64 (.wrap .i64 (.sub (.var 1) (.lit 1)))))))) (.lit 0)), false), ((.lt (.lit 0) (.wrap .i64 (.wrap .u64 (.sub (.nth (.var 0) (.wrap .i64 (.add (.var 0) (.lit 1)))) (.nth (.var 0) (.var 0)))))), true), ((.lt (.var 1) (.wrap .i64 (.wrap .u64 (.sub (.nth (.var 0) (.wrap .i64 (.add (.var 0) (.lit 1)))) (.nth (.var 0) (.var 0)))))), false), ((.lt (.wrap .i64 (.wrap .u64 (.sub (.nth (.var 0) (.wrap .i64 (.add (.var 0) (.lit 1)))) (.nth (.var 0) (.var 0))))) (.lit (-1))), false), ((.lt (.wrap .i64 (.add (.var 0) (.lit 1))) (.len (.var 0))), true), ((.lt (.wrap .i64 (.add (.var 0) (.lit 1))) (.lit 0)), false), ((.lt (.var 0) (.len (.var 0))), true), ((.lt (.len (.var 0)) (.lit 1099511627776)), true), ((.lt (.wrap .i64 (.add (.wrap .i64 (.add (.var 0) (.var 1))) (.lit 1))) (.len (.var 0))), true), ((.lt (.var 0) (.wrap .i64 (.sub (.wrap .i64 (.sub (.lit 65536) (.var 1))) (.lit 1)))), true), ((.lt (.var 0) (.lit 0)), false), ((.eq (.bits 0 .i64 (.var 1) (.wrap .i64 (.sub (.var 1) (.lit 1)))) (.lit 0)), true), ((.lt (.lit 256) (.var 1)), false), ((.lt (.var 1) (.lit 2)), false)]⟩,
  ⟨.exit 1, 1, ⟨[], [(1, (.wrap .i64 (.wrap .u64 (.sub (.nth (.var 0) (.wrap .i64 (.add (.var 0) (.lit 1)))) (.nth (.var 0) (.var 0)))))), (0, (.nth (.var 0) (.var 0)))], [], [], [], [], [], []⟩, [((.lt (.lit 0) (.wrap .i64 (.wrap .u64 (.sub (.nth (.var 0) (.wrap .i64 (.add (.var 0) (.lit 1)))) (.nth (.var 0) (.var 0)))))), false), ((.lt (.var 1) (.wrap .i64 (.wrap .u64 (.sub (.nth (.var 0) (.wrap .i64 (.add (.var 0) (.lit 1)))) (.nth (.var 0) (.var 0)))))), false), ((.lt (.wrap .i64 (.wrap .u64 (.sub (.nth (.var 0) (.wrap .i64 (.add (.var 0) (.lit 1)))) (.nth (.var 0) (.var 0))))) (.lit (-1))), false), ((.lt (.wrap .i64 (.add (.var 0) (.lit 1))) (.len (.var 0))), true), ((.lt (.wrap .i64 (.add (.var 0) (.lit 1))) (.lit 0)), false), ((.lt (.var 0) (.len (.var 0))), true), ((.lt (.len (.var 0)) (.lit 1099511627776)), true), ((.lt (.wrap .i64 (.add (.wrap .i64 (.add (.var 0) (.var 1))) (.lit 1))) (.len (.var 0))), true), ((.lt (.var 0) (.wrap .i64 (.sub (.wrap .i64 (.sub (.lit 65536) (.var 1))) (.lit 1)))), true), ((.lt (.var 0) (.lit 0)), false), ((.eq (.bits 0 .i64 (.var 1) (.wrap .i64 (.sub (.var 1) (.lit 1)))) (.lit 0)), true), ((.lt (.lit 256) (.var 1)), false), ((.lt (.var 1) (.lit 2)), false)]⟩]
def sumsDq : List SumT := [
  ⟨.bad, 0, ⟨[], [], [], [], [], [], [], []⟩, [((.lt (.wrap .i64 (.add (.wrap .i64 (.add (.var 0) (.lit 2))) (.wrap .i64 (.bits 0 .u64 (.var (nDq + 0)) (.wrap .u64 (.wrap .i64 (.sub (.var 1) (.lit 1)))))))) (.lit 0)), true), ((.lt (.lit 0) (.var (nDq + 1))), true), ((.lt (.var (nDq + 1)) (.lit 0)), false), ((.lt (.lit 300) (.var (nDq + 1))), false), ((.lt (.len (.var (nDq + 2))) (.lit 1000)), true), ((.lt (.var 1) (.wrap .i64 (.wrap .u64 (.sub (.nth (.var 0) (.wrap .i64 (.add (.var 0) (.lit 1)))) (.nth (.var 0) (.var 0)))))), false), ((.lt (.wrap .i64 (.wrap .u64 (.sub (.nth (.var 0) (.wrap .i64 (.add (.var 0) (.lit 1)))) (.nth (.var 0) (.var 0))))) (.lit (-1))), false), ((.lt (.wrap .i64 (.add (.var 0) (.lit 1))) (.len (.var 0))), true), ((.lt (.wrap .i64 (.add (.var 0) (.lit 1))) (.lit 0)), false), ((.lt (.var 0) (.len (.var 0))), true), ((.lt (.len (.var 0)) (.lit 1099511627776)), true), ((.lt (.wrap .i64 (.add (.wrap .i64 (.add (.var 0) (.var 1))) (.lit 1))) (.len (.var 0))), true), ((.lt (.var 0) (.wrap .i64 (.sub (.wrap .i64 (.sub (.lit 65536) (.var 1))) (.lit 1)))), true), ((.lt (.var 0) (.lit 0)), false), ((.eq (.bits 0 .i64 (.var 1) (.wrap .i64 (.sub (.var 1) (.lit 1)))) (.lit 0)), true), ((.lt (.lit 256) (.var 1)), false), ((.lt (.var 1) (.lit 2)), false)]⟩,
  ⟨.bad, 0, ⟨[], [], [], [], [], [], [], []⟩, [((.lt (.wrap .i64 (.add (.wrap .i64 (.add (.var 0) (.lit 2))) (.wrap .i64 (.bits 0 .u64 (.var (nDq + 0)) (.wrap .u64 (.wrap .i64 (.sub (.var 1) (.lit 1)))))))) (.len (.var 0))), false), ((.lt (.wrap .i64 (.add (.wrap .i64 (.add (.var 0) (.lit 2))) (.wrap .i64 (.bits 0 .u64 (.var (nDq + 0)) (.wrap .u64 (.wrap .i64 (.sub (.var 1) (.lit 1)))))))) (.lit 0)), false), ((.lt (.lit 0) (.var (nDq + 1))), true), ((.lt (.var (nDq + 1)) (.lit 0)), false), ((.lt (.lit 300) (.var (nDq + 1))), false), ((.lt (.len (.var (nDq + 2))) (.lit 1000)), true), ((.lt (.var 1) (.wrap .i64 (.wrap .u64 (.sub (.nth (.var 0) (.wrap .i64 (.add (.var 0) (.lit 1)))) (.nth (.var 0) (.var 0)))))), false), ((.lt (.wrap .i64 (.wrap .u64 (.sub (.nth (.var 0) (.wrap .i64 (.add (.var 0) (.lit 1)))) (.nth (.var 0) (.var 0))))) (.lit (-1))), false), ((.lt (.wrap .i64 (.add (.var 0) (.lit 1))) (.len (.var 0))), true), ((.lt (.wrap .i64 (.add (.var 0) (.lit 1))) (.lit 0)), false), ((.lt (.var 0) (.len (.var 0))), true), ((.lt (.len (.var 0)) (.lit 1099511627776)), true), ((.lt (.wrap .i64 (.add (.wrap .i64 (.add (.var 0) (.var 1))) (.lit 1))) (.len (.var 0))), true), ((.lt (.var 0) (.wrap .i64 (.sub (.wrap .i64 (.sub (.lit 65536) (.var 1))) (.lit 1)))), true), ((.lt (.var 0) (.lit 0)), false), ((.eq (.bits 0 .i64 (.var 1) (.wrap .i64 (.sub (.var 1) (.lit 1)))) (.lit 0)), true), ((.lt (.lit 256) (.var 1)), false), ((.lt (.var 1) (.lit 2)), false)]⟩,
  ⟨.bad, 0, ⟨[], [], [], [], [], [], [], []⟩, [((.lt (.add (.len (.var (nDq + 2))) (.lit 1)) (.lit 1099511627776)), false), ((.lt (.wrap .i64 (.add (.wrap .i64 (.add (.var 0) (.lit 2))) (.wrap .i64 (.bits 0 .u64 (.var (nDq + 0)) (.wrap .u64 (.wrap .i64 (.sub (.var 1) (.lit 1)))))))) (.len (.var 0))), true), ((.lt (.wrap .i64 (.add (.wrap .i64 (.add (.var 0) (.lit 2))) (.wrap .i64 (.bits 0 .u64 (.var (nDq + 0)) (.wrap .u64 (.wrap .i64 (.sub (.var 1) (.lit 1)))))))) (.lit 0)), false), ((.lt (.lit 0) (.var (nDq + 1))), true), ((.lt (.var (nDq + 1)) (.lit 0)), false), ((.lt (.lit 300) (.var (nDq + 1))), false), ((.lt (.len (.var (nDq + 2))) (.lit 1000)), true), ((.lt (.var 1) (.wrap .i64 (.wrap .u64 (.sub (.nth (.var 0) (.wrap .i64 (.add (.var 0) (.lit 1)))) (.nth (.var 0) (.var 0)))))), false), ((.lt (.wrap .i64 (.wrap .u64 (.sub (.nth (.var 0) (.wrap .i64 (.add (.var 0) (.lit 1)))) (.nth (.var 0) (.var 0))))) (.lit (-1))), false), ((.lt (.wrap .i64 (.add (.var 0) (.lit 1))) (.len (.var 0))), true), ((.lt (.wrap .i64 (.add (.var 0) (.lit 1))) (.lit 0)), false), ((.lt (.var 0) (.len (.var 0))), true), ((.lt (.len (.var 0)) (.lit 1099511627776)), true), ((.lt (.wrap .i64 (.add (.wrap .i64 (.add (.var 0) (.var 1))) (.lit 1))) (.len (.var 0))), true), ((.lt (.var 0) (.wrap .i64 (.sub (.wrap .i64 (.sub (.lit 65536) (.var 1))) (.lit 1)))), true), ((.lt (.var 0) (.lit 0)), false), ((.eq (.bits 0 .i64 (.var 1) (.wrap .i64 (.sub (.var 1) (.lit 1)))) (.lit 0)), true), ((.lt (.lit 256) (.var 1)), false), ((.lt (.var 1) (.lit 2)), false)]⟩,
  ⟨.normal, 0, ⟨[((nDq + 2), 5260135901548373507240989946749472301766583420246155697432633339452304560972669586846824154876116524494465158240469115106841033934125674584269561866078046202693269210123222044873792829130033035227327840301088768)], [(2, (.var 5260135901548373507240989946749472301766583420246155697432633339452304560972669586846824154876116524494465158240469115106841033934125674584269561866078046202693269210123222044873792829130033035227327840301088768)), (1, (.wrap .i64 (.sub (.var (nDq + 1)) (.lit 1)))), (0, (.wrap .u64 (.add (.var (nDq + 0)) (.lit 1))))], [(2, (.app (.var (nDq + 2)) (.cons (.nth (.var 0) (.wrap .i64 (.add (.wrap .i64 (.add (.var 0) (.lit 2))) (.wrap .i64 (.bits 0 .u64 (.var (nDq + 0)) (.wrap .u64 (.wrap .i64 (.sub (.var 1) (.lit 1))))))))) .nil)))], [], [((.add (.len (.var (nDq + 2))) (.lit 1)), (.len (.var (nDq + 2))))], [], [], []⟩, [((.lt (.add (.len (.var (nDq + 2))) (.lit 1)) (.lit 1099511627776)), true), ((.lt (.wrap .i64 (.add (.wrap .i64 (.add (.var 0) (.lit 2))) (.wrap .i64 (.bits 0 .u64 (.var (nDq + 0)) (.wrap .u64 (.wrap .i64 (.sub (.var 1) (.lit 1)))))))) (.len (.var 0))), true), ((.lt (.wrap .i64 (.add (.wrap .i64 (.add (.var 0) (.lit 2))) (.wrap .i64 (.bits 0 .u64 (.var (nDq + 0)) (.wrap .u64 (.wrap .i64 (.sub (.var 1) (.lit 1)))))))) (.lit 0)), false), ((.lt (.lit 0) (.var (nDq + 1))), true), ((.lt (.var (nDq + 1)) (.lit 0)), false), ((.lt (.lit 300) (.var (nDq + 1))), false), ((.lt (.len (.var (nDq + 2))) (.lit 1000)), true), ((.lt (.var 1) (.wrap .i64 (.wrap .u64 (.sub (.nth (.var 0) (.wrap .i64 (.add (.var 0) (.lit 1)))) (.nth (.var 0) (.var 0)))))), false), ((.lt (.wrap .i64 (.wrap .u64 (.sub (.nth (.var 0) (.wrap .i64 (.add (.var 0) (.lit 1)))) (.nth (.var 0) (.var 0))))) (.lit (-1))), false), ((.lt (.wrap .i64 (.add (.var 0) (.lit 1))) (.len (.var 0))), true), ((.lt (.wrap .i64 (.add (.var 0) (.lit 1))) (.lit 0)), false), ((.lt (.var 0) (.len (.var 0))), true), ((.lt (.len (.var 0)) (.lit 1099511627776)), true), ((.lt (.wrap .i64 (.add (.wrap .i64 (.add (.var 0) (.var 1))) (.lit 1))) (.len (.var 0))), true), ((.lt (.var 0) (.wrap .i64 (.sub (.wrap .i64 (.sub (.lit 65536) (.var 1))) (.lit 1)))), true), ((.lt (.var 0) (.lit 0)), false), ((.eq (.bits 0 .i64 (.var 1) (.wrap .i64 (.sub (.var 1) (.lit 1)))) (.lit 0)), true), ((.lt (.lit 256) (.var 1)), false), ((.lt (.var 1) (.lit 2)), false)]⟩,
  ⟨.exit 1, 0, ⟨[((nDq + 2), (nDq + 2))], [(2, (.var (nDq + 2))), (1, (.var (nDq + 1))), (0, (.var (nDq + 0)))], [], [], [((.len (.var (nDq + 2))), (.len (.gl 0 (.app 40 (.var 0) (.var 0) (.var 0) (.var 1) (.nth (.var 0) (.var 0)) (.wrap .i64 (.wrap .u64 (.sub (.nth (.var 0) (.wrap .i64 (.add (.var 0) (.lit 1)))) (.nth (.var 0) (.var 0))))) (.var 0)) (.lit 0) (.lit 0))))], [((.var (nDq + 2)), (.gl 0 (.app 40 (.var 0) (.var 0) (.var 0) (.var 1) (.nth (.var 0) (.var 0)) (.wrap .i64 (.wrap .u64 (.sub (.nth (.var 0) (.wrap .i64 (.add (.var 0) (.lit 1)))) (.nth (.var 0) (.var 0))))) (.var 0)) (.lit 0) (.lit 0)))], [], []⟩, [((.lt (.lit 0) (.var (nDq + 1))), false), ((.lt (.var (nDq + 1)) (.lit 0)), false), ((.lt (.lit 300) (.var (nDq + 1))), false), ((.lt (.len (.var (nDq + 2))) (.lit 1000)), true), ((.lt (.var 1) (.wrap .i64 (.wrap .u64 (.sub (.nth (.var 0) (.wrap .i64 (.add (.var 0) (.lit 1)))) (.nth (.var 0) (.var 0)))))), false), ((.lt (.wrap .i64 (.wrap .u64 (.sub (.nth (.var 0) (.wrap .i64 (.add (.var 0) (.lit 1)))) (.nth (.var 0) (.var 0))))) (.lit (-1))), false), ((.lt (.wrap .i64 (.add (.var 0) (.lit 1))) (.len (.var 0))), true), ((.lt (.wrap .i64 (.add (.var 0) (.lit 1))) (.lit 0)), false), ((.lt (.var 0) (.len (.var 0))), true), ((.lt (.len (.var 0)) (.lit 1099511627776)), true), ((.lt (.wrap .i64 (.add (.wrap .i64 (.add (.var 0) (.var 1))) (.lit 1))) (.len (.var 0))), true), ((.lt (.var 0) (.wrap .i64 (.sub (.wrap .i64 (.sub (.lit 65536) (.var 1))) (.lit 1)))), true), ((.lt (.var 0) (.lit 0)), false), ((.eq (.bits 0 .i64 (.var 1) (.wrap .i64 (.sub (.var 1) (.lit 1)))) (.lit 0)), true), ((.lt (.lit 256) (.var 1)), false), ((.lt (.var 1) (.lit 2)), false)]⟩]
def ouDq : List CLeaf := [
  ⟨false, (.tup [.nilSl, (.int .i64 (.lit 2))]), [((.lt (.var 0) (.wrap .i64 (.sub (.wrap .i64 (.sub (.lit 65536) (.var 1))) (.lit 1)))), false), ((.lt (.var 0) (.lit 0)), false), ((.eq (.bits 0 .i64 (.var 1) (.wrap .i64 (.sub (.var 1) (.lit 1)))) (.lit 0)), true), ((.lt (.lit 256) (.var 1)), false), ((.lt (.var 1) (.lit 2)), false)], [(0, (.cells [(.sl 1 (.lit 0) (.len (.var 0)) (.var 2))] 54 true)), (1, (.row .u64 (.var 0) (.var 2) 41))]⟩,
  ⟨false, (.tup [.nilSl, (.int .i64 (.lit 3))]), [((.lt (.wrap .i64 (.add (.wrap .i64 (.add (.var 0) (.var 1))) (.lit 1))) (.len (.var 0))), false), ((.lt (.var 0) (.wrap .i64 (.sub (.wrap .i64 (.sub (.lit 65536) (.var 1))) (.lit 1)))), true), ((.lt (.var 0) (.lit 0)), false), ((.eq (.bits 0 .i64 (.var 1) (.wrap .i64 (.sub (.var 1) (.lit 1)))) (.lit 0)), true), ((.lt (.lit 256) (.var 1)), false), ((.lt (.var 1) (.lit 2)), false)], [(0, (.cells [(.sl 1 (.lit 0) (.len (.var 0)) (.var 2))] 54 true)), (1, (.row .u64 (.var 0) (.var 2) 41))]⟩,
  ⟨true, (.tup []), [((.lt (.len (.var 0)) (.lit 1099511627776)), false), ((.lt (.wrap .i64 (.add (.wrap .i64 (.add (.var 0) (.var 1))) (.lit 1))) (.len (.var 0))), true), ((.lt (.var 0) (.wrap .i64 (.sub (.wrap .i64 (.sub (.lit 65536) (.var 1))) (.lit 1)))), true), ((.lt (.var 0) (.lit 0)), false), ((.eq (.bits 0 .i64 (.var 1) (.wrap .i64 (.sub (.var 1) (.lit 1)))) (.lit 0)), true), ((.lt (.lit 256) (.var 1)), false), ((.lt (.var 1) (.lit 2)), false)], []⟩,
  ⟨true, (.tup []), [((.lt (.var 0) (.len (.var 0))), false), ((.lt (.len (.var 0)) (.lit 1099511627776)), true), ((.lt (.wrap .i64 (.add (.wrap .i64 (.add (.var 0) (.var 1))) (.lit 1))) (.len (.var 0))), true), ((.lt (.var 0) (.wrap .i64 (.sub (.wrap .i64 (.sub (.lit 65536) (.var 1))) (.lit 1)))), true), ((.lt (.var 0) (.lit 0)), false), ((.eq (.bits 0 .i64 (.var 1) (.wrap .i64 (.sub (.var 1) (.lit 1)))) (.lit 0)), true), ((.lt (.lit 256) (.var 1)), false), ((.lt (.var 1) (.lit 2)), false)], []⟩,
  ⟨true, (.tup []), [((.lt (.wrap .i64 (.add (.var 0) (.lit 1))) (.lit 0)), true), ((.lt (.var 0) (.len (.var 0))), true), ((.lt (.len (.var 0)) (.lit 1099511627776)), true), ((.lt (.wrap .i64 (.add (.wrap .i64 (.add (.var 0) (.var 1))) (.lit 1))) (.len (.var 0))), true), ((.lt (.var 0) (.wrap .i64 (.sub (.wrap .i64 (.sub (.lit 65536) (.var 1))) (.lit 1)))), true), ((.lt (.var 0) (.lit 0)), false), ((.eq (.bits 0 .i64 (.var 1) (.wrap .i64 (.sub (.var 1) (.lit 1)))) (.lit 0)), true), ((.lt (.lit 256) (.var 1)), false), ((.lt (.var 1) (.lit 2)), false)], []⟩,
  ⟨true, (.tup []), [((.lt (.wrap .i64 (.add (.var 0) (.lit 1))) (.len (.var 0))), false), ((.lt (.wrap .i64 (.add (.var 0) (.lit 1))) (.lit 0)), false), ((.lt (.var 0) (.len (.var 0))), true), ((.lt (.len (.var 0)) (.lit 1099511627776)), true), ((.lt (.wrap .i64 (.add (.wrap .i64 (.add (.var 0) (.var 1))) (.lit 1))) (.len (.var 0))), true), ((.lt (.var 0) (.wrap .i64 (.sub (.wrap .i64 (.sub (.lit 65536) (.var 1))) (.lit 1)))), true), ((.lt (.var 0) (.lit 0)), false), ((.eq (.bits 0 .i64 (.var 1) (.wrap .i64 (.sub (.var 1) (.lit 1)))) (.lit 0)), true), ((.lt (.lit 256) (.var 1)), false), ((.lt (.var 1) (.lit 2)), false)], []⟩,
  ⟨false, (.tup [.nilSl, (.int .i64 (.lit 9))]), [((.lt (.wrap .i64 (.wrap .u64 (.sub (.nth (.var 0) (.wrap .i64 (.add (.var 0) (.lit 1)))) (.nth (.var 0) (.var 0))))) (.lit (-1))), true), ((.lt (.wrap .i64 (.add (.var 0) (.lit 1))) (.len (.var 0))), true), ((.lt (.wrap .i64 (.add (.var 0) (.lit 1))) (.lit 0)), false), ((.lt (.var 0) (.len (.var 0))), true), ((.lt (.len (.var 0)) (.lit 1099511627776)), true), ((.lt (.wrap .i64 (.add (.wrap .i64 (.add (.var 0) (.var 1))) (.lit 1))) (.len (.var 0))), true), ((.lt (.var 0) (.wrap .i64 (.sub (.wrap .i64 (.sub (.lit 65536) (.var 1))) (.lit 1)))), true), ((.lt (.var 0) (.lit 0)), false), ((.eq (.bits 0 .i64 (.var 1) (.wrap .i64 (.sub (.var 1) (.lit 1)))) (.lit 0)), true), ((.lt (.lit 256) (.var 1)), false), ((.lt (.var 1) (.lit 2)), false)], [(0, (.cells [(.sl 1 (.lit 0) (.len (.var 0)) (.var 2))] 54 true)), (1, (.row .u64 (.var 0) (.var 2) 41)), (4149515568907425437526880652735680015385233752756462778006859475298683036248235919488470098102647483335564312748276870076664669818648328546807893640373694713694388670062981101387776, (.row .u64 (.var 0) (.var 4149515568907425437526880652735680015385233752756462778006859475298683036248235919488470098102647483335564312748276870076664669818648328546807893640373694713694388670062981101387776) 41))]⟩,
  ⟨false, (.tup [.nilSl, (.int .i64 (.lit 9))]), [((.lt (.var 1) (.wrap .i64 (.wrap .u64 (.sub (.nth (.var 0) (.wrap .i64 (.add (.var 0) (.lit 1)))) (.nth (.var 0) (.var 0)))))), true), ((.lt (.wrap .i64 (.wrap .u64 (.sub (.nth (.var 0) (.wrap .i64 (.add (.var 0) (.lit 1)))) (.nth (.var 0) (.var 0))))) (.lit (-1))), false), ((.lt (.wrap .i64 (.add (.var 0) (.lit 1))) (.len (.var 0))), true), ((.lt (.wrap .i64 (.add (.var 0) (.lit 1))) (.lit 0)), false), ((.lt (.var 0) (.len (.var 0))), true), ((.lt (.len (.var 0)) (.lit 1099511627776)), true), ((.lt (.wrap .i64 (.add (.wrap .i64 (.add (.var 0) (.var 1))) (.lit 1))) (.len (.var 0))), true), ((.lt (.var 0) (.wrap .i64 (.sub (.wrap .i64 (.sub (.lit 65536) (.var 1))) (.lit 1)))), true), ((.lt (.var 0) (.lit 0)), false), ((.eq (.bits 0 .i64 (.var 1) (.wrap .i64 (.sub (.var 1) (.lit 1)))) (.lit 0)), true), ((.lt (.lit 256) (.var 1)), false), ((.lt (.var 1) (.lit 2)), false)], [(0, (.cells [(.sl 1 (.lit 0) (.len (.var 0)) (.var 2))] 54 true)), (1, (.row .u64 (.var 0) (.var 2) 41)), (4149515568907425437526880652735680015385233752756462778006859475298683036248235919488470098102647483335564312748276870076664669818648328546807893640373694713694388670062981101387776, (.row .u64 (.var 0) (.var 4149515568907425437526880652735680015385233752756462778006859475298683036248235919488470098102647483335564312748276870076664669818648328546807893640373694713694388670062981101387776) 41))]⟩,
  ⟨false, (.tup [(.sl (nDq + 2) (.lit 0) (.len (.gl 0 (.app 40 (.var 0) (.var 0) (.var 0) (.var 1) (.nth (.var 0) (.var 0)) (.wrap .i64 (.wrap .u64 (.sub (.nth (.var 0) (.wrap .i64 (.add (.var 0) (.lit 1)))) (.nth (.var 0) (.var 0))))) (.var 0)) (.lit 0) (.lit 0))) (.var (nDq + 2))), (.int .i64 (.lit 0))]), [((.lt (.lit 0) (.wrap .i64 (.wrap .u64 (.sub (.nth (.var 0) (.wrap .i64 (.add (.var 0) (.lit 1)))) (.nth (.var 0) (.var 0)))))), true), ((.lt (.var 1) (.wrap .i64 (.wrap .u64 (.sub (.nth (.var 0) (.wrap .i64 (.add (.var 0) (.lit 1)))) (.nth (.var 0) (.var 0)))))), false), ((.lt (.wrap .i64 (.wrap .u64 (.sub (.nth (.var 0) (.wrap .i64 (.add (.var 0) (.lit 1)))) (.nth (.var 0) (.var 0))))) (.lit (-1))), false), ((.lt (.wrap .i64 (.add (.var 0) (.lit 1))) (.len (.var 0))), true), ((.lt (.wrap .i64 (.add (.var 0) (.lit 1))) (.lit 0)), false), ((.lt (.var 0) (.len (.var 0))), true), ((.lt (.len (.var 0)) (.lit 1099511627776)), true), ((.lt (.wrap .i64 (.add (.wrap .i64 (.add (.var 0) (.var 1))) (.lit 1))) (.len (.var 0))), true), ((.lt (.var 0) (.wrap .i64 (.sub (.wrap .i64 (.sub (.lit 65536) (.var 1))) (.lit 1)))), true), ((.lt (.var 0) (.lit 0)), false), ((.eq (.bits 0 .i64 (.var 1) (.wrap .i64 (.sub (.var 1) (.lit 1)))) (.lit 0)), true), ((.lt (.lit 256) (.var 1)), false), ((.lt (.var 1) (.lit 2)), false)], [(0, (.cells [(.sl 1 (.lit 0) (.len (.var 0)) (.var 2))] 54 true)), (1, (.row .u64 (.var 0) (.var 2) 41)), (4149515568907425437526880652735680015385233752756462778006859475298683036248235919488470098102647483335564312748276870076664669818648328546807893640373694713694388670062981101387776, (.row .u64 (.var 0) (.var 4149515568907425437526880652735680015385233752756462778006859475298683036248235919488470098102647483335564312748276870076664669818648328546807893640373694713694388670062981101387776) 41)), ((nDq + 2), (.row .u64 (.gl 0 (.app 40 (.var 0) (.var 0) (.var 0) (.var 1) (.nth (.var 0) (.var 0)) (.wrap .i64 (.wrap .u64 (.sub (.nth (.var 0) (.wrap .i64 (.add (.var 0) (.lit 1)))) (.nth (.var 0) (.var 0))))) (.var 0)) (.lit 0) (.lit 0)) (.var (nDq + 2)) 41))]⟩,
  ⟨false, (.tup [.nilSl, (.int .i64 (.lit 0))]), [((.lt (.lit 0) (.wrap .i64 (.wrap .u64 (.sub (.nth (.var 0) (.wrap .i64 (.add (.var 0) (.lit 1)))) (.nth (.var 0) (.var 0)))))), false), ((.lt (.var 1) (.wrap .i64 (.wrap .u64 (.sub (.nth (.var 0) (.wrap .i64 (.add (.var 0) (.lit 1)))) (.nth (.var 0) (.var 0)))))), false), ((.lt (.wrap .i64 (.wrap .u64 (.sub (.nth (.var 0) (.wrap .i64 (.add (.var 0) (.lit 1)))) (.nth (.var 0) (.var 0))))) (.lit (-1))), false), ((.lt (.wrap .i64 (.add (.var 0) (.lit 1))) (.len (.var 0))), true), ((.lt (.wrap .i64 (.add (.var 0) (.lit 1))) (.lit 0)), false), ((.lt (.var 0) (.len (.var 0))), true), ((.lt (.len (.var 0)) (.lit 1099511627776)), true), ((.lt (.wrap .i64 (.add (.wrap .i64 (.add (.var 0) (.var 1))) (.lit 1))) (.len (.var 0))), true), ((.lt (.var 0) (.wrap .i64 (.sub (.wrap .i64 (.sub (.lit 65536) (.var 1))) (.lit 1)))), true), ((.lt (.var 0) (.lit 0)), false), ((.eq (.bits 0 .i64 (.var 1) (.wrap .i64 (.sub (.var 1) (.lit 1)))) (.lit 0)), true), ((.lt (.lit 256) (.var 1)), false), ((.lt (.var 1) (.lit 2)), false)], [(0, (.cells [(.sl 1 (.lit 0) (.len (.var 0)) (.var 2))] 54 true)), (1, (.row .u64 (.var 0) (.var 2) 41)), (4149515568907425437526880652735680015385233752756462778006859475298683036248235919488470098102647483335564312748276870076664669818648328546807893640373694713694388670062981101387776, (.row .u64 (.var 0) (.var 4149515568907425437526880652735680015385233752756462778006859475298683036248235919488470098102647483335564312748276870076664669818648328546807893640373694713694388670062981101387776) 41))]⟩,
  ⟨true, (.tup []), [((.lt (.wrap .i64 (.add (.var 0) (.lit 1))) (.lit 0)), true), ((.lt (.len (.var 0)) (.lit 1099511627776)), true), ((.lt (.wrap .i64 (.add (.wrap .i64 (.add (.var 0) (.var 1))) (.lit 1))) (.len (.var 0))), true), ((.lt (.var 0) (.wrap .i64 (.sub (.wrap .i64 (.sub (.lit 65536) (.var 1))) (.lit 1)))), true), ((.lt (.var 0) (.lit 0)), false), ((.eq (.bits 0 .i64 (.var 1) (.wrap .i64 (.sub (.var 1) (.lit 1)))) (.lit 0)), true), ((.lt (.lit 256) (.var 1)), false), ((.lt (.var 1) (.lit 2)), false)], []⟩,
  ⟨true, (.tup []), [((.lt (.wrap .i64 (.add (.var 0) (.lit 1))) (.len (.var 0))), false), ((.lt (.wrap .i64 (.add (.var 0) (.lit 1))) (.lit 0)), false), ((.lt (.len (.var 0)) (.lit 1099511627776)), true), ((.lt (.wrap .i64 (.add (.wrap .i64 (.add (.var 0) (.var 1))) (.lit 1))) (.len (.var 0))), true), ((.lt (.var 0) (.wrap .i64 (.sub (.wrap .i64 (.sub (.lit 65536) (.var 1))) (.lit 1)))), true), ((.lt (.var 0) (.lit 0)), false), ((.eq (.bits 0 .i64 (.var 1) (.wrap .i64 (.sub (.var 1) (.lit 1)))) (.lit 0)), true), ((.lt (.lit 256) (.var 1)), false), ((.lt (.var 1) (.lit 2)), false)], []⟩,
  ⟨false, (.tup [.nilSl, (.int .i64 (.lit 2))]), [((.lt (.var 0) (.lit 0)), true), ((.eq (.bits 0 .i64 (.var 1) (.wrap .i64 (.sub (.var 1) (.lit 1)))) (.lit 0)), true), ((.lt (.lit 256) (.var 1)), false), ((.lt (.var 1) (.lit 2)), false)], [(0, (.cells [(.sl 1 (.lit 0) (.len (.var 0)) (.var 2))] 54 true)), (1, (.row .u64 (.var 0) (.var 2) 41))]⟩,
  ⟨false, (.tup [.nilSl, (.int .i64 (.lit 2))]), [((.eq (.bits 0 .i64 (.var 1) (.wrap .i64 (.sub (.var 1) (.lit 1)))) (.lit 0)), false), ((.lt (.lit 256) (.var 1)), false), ((.lt (.var 1) (.lit 2)), false)], [(0, (.cells [(.sl 1 (.lit 0) (.len (.var 0)) (.var 2))] 54 true)), (1, (.row .u64 (.var 0) (.var 2) 41))]⟩,
  ⟨false, (.tup [.nilSl, (.int .i64 (.lit 2))]), [((.lt (.lit 256) (.var 1)), true), ((.lt (.var 1) (.lit 2)), false)], [(0, (.cells [(.sl 1 (.lit 0) (.len (.var 0)) (.var 2))] 54 true)), (1, (.row .u64 (.var 0) (.var 2) 41))]⟩,
  ⟨false, (.tup [.nilSl, (.int .i64 (.lit 2))]), [((.lt (.var 1) (.lit 2)), true)], [(0, (.cells [(.sl 1 (.lit 0) (.len (.var 0)) (.var 2))] 54 true)), (1, (.row .u64 (.var 0) (.var 2) 41))]⟩]
theorem pcDq_eq : (eDq Tryz.prog).pc = pcDq := by kernel_rfl
theorem body0Dq : (body0 Tryz.prog).bind (sumsT Tryz.prog nDq LO7 SZ7 (tgDq Tryz.prog)) = some sums0Dq := by kernel_rfl
theorem body1Dq : (body1 Tryz.prog).bind (sumsT Tryz.prog nDq LO7 SZ7 (tgDq Tryz.prog)) = some sumsDq := by kernel_rfl
theorem oneDq : (loopsAt Tryz.prog fDq 13).length = 1 := by kernel_rfl
def oDq (P : Program) : Orac := noOrac.withLoop fDq 13 nDq (eDq P).fr (eDq P).hp (mkM nDq (gDq P) (bDq P))
theorem avDq : pav nDq (nDq + 64) pcDq = true := by kernel_rfl
theorem runDq : runX Tryz.prog (oDq Tryz.prog) fDq tDq.args tDq.pc tDq.hp = some ouDq := by kernel_rfl

/-- how many, of numbers. -/
def manyZ (l : List Int) (at' : Int) : Int := IntKind.i64.wrap (IntKind.u64.wrap (l.getD (IntKind.i64.wrap (at' + 1)).toNat 0 - l.getD at'.toNat 0))
structure FactsDq (ν : Env Gh) : Prop where
  at0 : 0 ≤ ν.i 0
  sz : Pow (ν.i 1)
  room : ν.i 0 + ν.i 1 + 1 < (ν.l 0).length
  len : (ν.l 0).length < 1099511627776
  n1 : -1 ≤ manyZ (ν.l 0) (ν.i 0)
  n2 : manyZ (ν.l 0) (ν.i 0) ≤ ν.i 1
theorem factsDq {ν : Env Gh} (h : pcDen ν pcDq) : FactsDq ν := by
  simp only [pcDq, pcDen_cons_iff, pcDen_nil_iff, SB.den, decide_eq_true_eq, decide_eq_false_iff_not, beq_iff_eq] at h
  simp only [SI.den, SL.den] at h
  obtain ⟨h1, h2, h3, h4, h5, h6, h7, h8, h9, h10, h11, h12, -⟩ := h
  have hp := (bits_iff _ (by omega) (by omega)).1 h10
  rw [wrapS (ν.i 0 + ν.i 1) (by omega) (by omega)] at h7
  rw [wrapS _ (by omega) (by omega)] at h7
  exact ⟨by omega, hp, by omega, by omega, by unfold manyZ; omega, by unfold manyZ; omega⟩
theorem bDq_pc {ν : Env Gh} (h : ∀ x ∈ bDq Tryz.prog, x.1.den ν ≠ x.2) : pcDen ν pcDq := by
  intro c b hm
  have := h (c, !b) (by unfold bDq; rw [pcDq_eq]; exact List.mem_map.2 ⟨(c, b), hm, rfl⟩)
  revert this
  simp only
  cases c.den ν <;> cases b <;> simp
/-- The place of a word. -/
theorem idxDq (at' sz t : Int) (h0 : 0 ≤ at') (h1 : Pow sz) (h2 : at' < 2000000000000) : IntKind.i64.wrap (IntKind.i64.wrap (at' + 2) + IntKind.i64.wrap (bitsDen 0 .u64 t (IntKind.u64.wrap (IntKind.i64.wrap (sz - 1))))) = at' + 2 + t % 18446744073709551616 % sz ∧ 0 ≤ t % 18446744073709551616 % sz ∧ t % 18446744073709551616 % sz < sz := by
  rw [mask_mod t sz h1]
  have hpos : 0 < sz ∧ sz ≤ 256 := by unfold Pow at h1; omega
  have a := Int.emod_nonneg (t % 18446744073709551616) (show sz ≠ 0 by omega)
  have b := Int.emod_lt_of_pos (t % 18446744073709551616) hpos.1
  rw [wrapS (at' + 2) (by omega) (by omega), wrapS (t % 18446744073709551616 % sz) (by omega) (by omega), wrapS _ (by omega) (by omega)]
  exact ⟨rfl, a, b⟩
theorem dec_iff {p : Prop} {i : Decidable p} {b : Bool} : @decide p i = b ↔ (p ↔ b = true) := by
  by_cases h : p <;> cases b <;> simp [h]
theorem dec_and2 {x y a b : Int} {i : Decidable (x < y)} {j : Decidable (a < b)} {c : Bool} : (!@decide (x < y) i && !@decide (a < b) j) = c ↔ ((y ≤ x ∧ b ≤ a) ↔ c = true) := by
  by_cases h1 : x < y <;> by_cases h2 : a < b <;> cases c <;> simp [h1, h2] <;> omega
attribute [local irreducible] nmAt
theorem oDq_ok : OOK Tryz.prog (oDq Tryz.prog) inM := by
  have hp : ∀ {ν : Env Gh} {x : Vals Gh}, (∀ x ∈ bDq Tryz.prog, x.1.den ν ≠ x.2) → 0 ≤ x.i 1 → x.i 1 ≤ 300 → (x.l 2).length < 1000 → pcDen (ν.at nDq x) (pDq Tryz.prog) := by
    intro ν x h h0 h1 h2
    have rf : RF nDq ν x (ν.at nDq x) := RF.self rfl
    have h := bDq_pc h
    have hold : pcDen (ν.at nDq x) pcDq := pcDen_agree (at_agree (ρ := fun _ => 0) (ρ' := fun _ => 0) (fun _ _ => rfl)) avDq h
    unfold pDq
    rw [pcDq_eq]
    simp only [pcDen_cons_iff, SB.den, decide_eq_true_eq, decide_eq_false_iff_not]
    simp only [SI.den, SL.den, rf.i 1 (by decide), rf.l 2 (by decide)]
    exact ⟨by omega, by omega, by omega, hold⟩
  refine loopP_ok pr noOrac_ok (rfl : nDq = nmAt 13) (by decide +kernel) oneDq (ghL []) body1Dq body0Dq
    (fun ν x => ∃ d : Nat, 1 ≤ d ∧ (d : Int) ≤ manyZ (ν.l 0) (ν.i 0) ∧ x.i 0 = (((ν.l 0).getD (ν.i 0).toNat 0 + d) % 18446744073709551616) ∧ x.i 1 = manyZ (ν.l 0) (ν.i 0) - d ∧ x.l 2 = slotsG (ν.l 0) (ν.i 0) (ν.i 1) ((ν.l 0).getD (ν.i 0).toNat 0) d 18446744073709551616 2 1)
    (fun ν x => (x.i 1).toNat) (fun ν => (manyZ (ν.l 0) (ν.i 0)).toNat) ?_ ?_ noOrac_ok
  · intro t ht ν ν2 hI h rf hpc
    have F := factsDq (bDq_pc h)
    have F1 := F.at0
    have F2 := F.room
    have F3 := F.len
    have F4 := F.n2
    have F5 : 2 ≤ ν.i 1 ∧ ν.i 1 ≤ 256 := by have := F.sz; unfold Pow at this; omega
    have hidx := idxDq (ν.i 0) (ν.i 1) ((ν.l 0).getD (ν.i 0).toNat 0) F1 F.sz (by omega)
    simp only [sums0Dq, List.mem_cons, List.not_mem_nil, or_false] at ht
    rcases ht with rfl | rfl | rfl | rfl
    all_goals
      simp only [pcDen_cons_iff, SB.den, decide_eq_true_eq, decide_eq_false_iff_not, beq_iff_eq] at hpc
      simp only [SI.den, SL.den, rf.io 0 (by decide), rf.io 1 (by decide), rf.lo 0 (by decide), hidx.1] at hpc
    · show False
      omega
    · show False
      omega
    · have hm : 0 < manyZ (ν.l 0) (ν.i 0) := hpc.2.2.1
      have e0 : IntKind.i64.wrap (manyZ (ν.l 0) (ν.i 0) - 1) = manyZ (ν.l 0) (ν.i 0) - 1 := wrapS _ (by omega) (by omega)
      generalize hy : Mt.vals _ (ghL []) ν2 = y
      have y0 : y.i 0 = ((ν.l 0).getD (ν.i 0).toNat 0 + 1) % 18446744073709551616 := by
        rw [← hy]
        simp only [Mt.vals, lkp_cons, lkp_nil, Nat.reduceEqDiff, reduceIte, SI.den, SL.den, rf.io 0 (by decide), rf.lo 0 (by decide)]
        exact wrapU _
      have y1 : y.i 1 = manyZ (ν.l 0) (ν.i 0) - 1 := by
        rw [← hy]
        simp only [Mt.vals, lkp_cons, lkp_nil, Nat.reduceEqDiff, reduceIte, SI.den, SL.den, rf.io 0 (by decide), rf.lo 0 (by decide)]
        exact e0
      have y2 : y.l 2 = [(ν.l 0).getD (ν.i 0 + 2 + (ν.l 0).getD (ν.i 0).toNat 0 % 18446744073709551616 % ν.i 1).toNat 0] := by
        rw [← hy]
        simp only [Mt.vals, lkp_cons, lkp_nil, Nat.reduceEqDiff, reduceIte, SI.den, SL.den, rf.io 0 (by decide), rf.io 1 (by decide), rf.lo 0 (by decide), hidx.1]
      refine ⟨⟨1, by omega, by omega, y0, y1, ?_⟩, hp h (by omega) (by omega) (by rw [y2]; simp), by show _ < (manyZ (ν.l 0) (ν.i 0)).toNat; omega, ?_⟩
      · rw [slotsG_step _ _ _ _ _ _ _ 0, y2]
        simp [slotsG]
      · constructor <;> simp [SI.den, SL.den, at_l, y2]
    · refine ⟨fun g hg => ?_, by constructor <;> simp⟩
      cases hg
      refine pcDen_one ?_
      have rf3 : ∀ y, RF nDq ν y (ν.at nDq y) := fun y => RF.self rfl
      simp only [manyX, SB.den, decide_eq_false_iff_not]
      simp only [SI.den, SL.den, (rf3 _).io 0 (by decide), (rf3 _).lo 0 (by decide)]
      exact decide_eq_false hpc.1
  · intro t ht ν x ν2 hI h hJ _ rf hpc
    have F := factsDq (bDq_pc h)
    have F1 := F.at0
    have F2 := F.room
    have F3 := F.len
    have F4 := F.n2
    have F5 : 2 ≤ ν.i 1 ∧ ν.i 1 ≤ 256 := by have := F.sz; unfold Pow at this; omega
    obtain ⟨d, d1, d2, j0, j1, j2⟩ := hJ
    have hidx := idxDq (ν.i 0) (ν.i 1) (x.i 0) F1 F.sz (by omega)
    have hl : (x.l 2).length = d := by rw [j2, slotsG_length]; omega
    simp only [sumsDq, List.mem_cons, List.not_mem_nil, or_false] at ht
    rcases ht with rfl | rfl | rfl | rfl | rfl
    all_goals
      simp only [pcDen_cons_iff, SB.den, decide_eq_true_eq, decide_eq_false_iff_not, beq_iff_eq] at hpc
      simp only [SI.den, SL.den, rf.i 0 (by decide), rf.i 1 (by decide), rf.l 2 (by decide), rf.io 0 (by decide), rf.io 1 (by decide), rf.lo 0 (by decide), hidx.1, hl] at hpc
    · show False
      omega
    · show False
      omega
    · show False
      omega
    · have e0 : IntKind.i64.wrap (x.i 1 - 1) = x.i 1 - 1 := wrapS _ (by omega) (by omega)
      generalize hy : Mt.vals _ (ghL []) ν2 = y
      have y0 : y.i 0 = (x.i 0 + 1) % 18446744073709551616 := by
        rw [← hy]
        simp only [Mt.vals, lkp_cons, lkp_nil, Nat.reduceEqDiff, reduceIte, SI.den, SL.den, rf.i 0 (by decide)]
        exact wrapU _
      have y1 : y.i 1 = x.i 1 - 1 := by
        rw [← hy]
        simp only [Mt.vals, lkp_cons, lkp_nil, Nat.reduceEqDiff, reduceIte, SI.den, SL.den, rf.i 1 (by decide)]
        exact e0
      have y2 : y.l 2 = x.l 2 ++ [(ν.l 0).getD (ν.i 0 + 2 + x.i 0 % 18446744073709551616 % ν.i 1).toNat 0] := by
        rw [← hy]
        simp only [Mt.vals, lkp_cons, lkp_nil, Nat.reduceEqDiff, reduceIte, SI.den, SL.den, rf.i 0 (by decide), rf.l 2 (by decide), rf.io 0 (by decide), rf.io 1 (by decide), rf.lo 0 (by decide), hidx.1]
      refine ⟨⟨d + 1, by omega, by omega, by rw [y0, j0]; omega, by omega, ?_⟩, hp h (by omega) (by omega) (by rw [y2]; simp [hl]; omega), by omega, ?_⟩
      · rw [slotsG_step, y2, j2, j0]
        simp only [List.append_cancel_left_eq, List.cons.injEq, and_true]
        rw [show ((ν.l 0).getD (ν.i 0).toNat 0 + (d : Int)) % 18446744073709551616 % 18446744073709551616 = ((ν.l 0).getD (ν.i 0).toNat 0 + (d : Int)) % 18446744073709551616 by omega, Int.one_mul]
      · constructor <;> simp [SI.den, SL.den, at_l, y2, rf.l 2 (by decide)]
    · have hd : (d : Int) = manyZ (ν.l 0) (ν.i 0) := by omega
      have rf3 : ∀ y, RF nDq ν y (ν.at nDq y) := fun y => RF.self rfl
      refine ⟨fun g hg => ?_, ?_⟩
      · cases hg
        refine pcDen_one ?_
        simp only [manyX, SB.den, decide_eq_true_eq]
        simp only [SI.den, SL.den, (rf3 _).io 0 (by decide), (rf3 _).lo 0 (by decide)]
        exact decide_eq_true (show 0 < manyZ (ν.l 0) (ν.i 0) by omega)
      · have e : ∀ y, (SL.gl 0 (.app 40 (.var 0) (.var 0) (.var 0) (.var 1) (.nth (.var 0) (.var 0)) (.wrap .i64 (.wrap .u64 (.sub (.nth (.var 0) (.wrap .i64 (.add (.var 0) (.lit 1)))) (.nth (.var 0) (.var 0))))) (.var 0)) (.lit 0) (.lit 0)).den (ν.at nDq y) = x.l 2 := by
          intro y
          simp only [SL.den, SG.den, SI.den, (rf3 _).I, hI, (rf3 _).io 0 (by decide), (rf3 _).io 1 (by decide), (rf3 _).lo 0 (by decide)]
          rw [j2, hd]
          rfl
        constructor
        · intro y hy
          simp only [List.mem_cons, List.not_mem_nil, or_false] at hy
          subst hy
          simp only [SI.den]
          rw [e]
          simp only [SL.den, rf.l 2 (by decide)]
        · intro y hy
          simp only [List.mem_cons, List.not_mem_nil, or_false] at hy
          subst hy
          simp only
          rw [e]
          simp only [SL.den, rf.l 2 (by decide)]
        · simp
        · simp
/-! in short -/
def shDq : List CLeaf := [
  ⟨false, .tup [.nilSl, .int .i64 (.lit 2)], [(rightB 1 (.var 0) (.var 1), false)], tDq.hp⟩,
  ⟨false, .tup [.nilSl, .int .i64 (.lit 3)], [(roomB, false), (rightB 1 (.var 0) (.var 1), true)], tDq.hp⟩,
  ⟨false, .tup [.nilSl, .int .i64 (.lit 9)], [(manySB, false), (roomB, true), (rightB 1 (.var 0) (.var 1), true)], tDq.hp⟩,
  ⟨false, .tup [.sl (nDq + 2) (.lit 0) (.len (listX' (.var 0) (.var 1) topX manyX (.var 0))) (.var (nDq + 2)), .int .i64 (.lit 0)], [(.lt (.lit 0) manyX, true), (manySB, true), (roomB, true), (rightB 1 (.var 0) (.var 1), true)], tDq.hp ++ [(nDq + 2, .row .u64 (listX' (.var 0) (.var 1) topX manyX (.var 0)) (.var (nDq + 2)) 41)]⟩,
  ⟨false, .tup [.nilSl, .int .i64 (.lit 0)], [(.lt (.lit 0) manyX, false), (manySB, true), (roomB, true), (rightB 1 (.var 0) (.var 1), true)], tDq.hp⟩,
  ⟨true, .tup [], [(.lt (.len (.var 0)) (.lit 1099511627776), false)], []⟩]
theorem shDq_ok : ∀ c ∈ ouDq, ∀ ν : Env Gh, ν.I = inM → pcDen ν c.pc → ∃ c' ∈ shDq, c'.bad = c.bad ∧ (∀ ρ, c'.v.den ν ρ = c.v.den ν ρ) ∧ c'.hp.Sublist c.hp ∧ pcDen ν c'.pc := by
  intro c hc ν hI hp
  have hR : ∀ b : Bool, (rightB 1 (.var 0) (.var 1)).den ν = b ↔ (Right 1 (ν.i 0) (ν.i 1) ↔ b = true) := fun b => by
    have := rightB_den ν 1 (.var 0) (.var 1)
    simp only [SI.den] at this
    rw [← this]
    cases (rightB 1 (.var 0) (.var 1)).den ν <;> cases b <;> simp
  have arg : ¬ Right 1 (ν.i 0) (ν.i 1) → ∃ c' ∈ shDq, c'.bad = false ∧ (∀ ρ, c'.v.den ν ρ = (SV.tup [.nilSl, .int .i64 (.lit 2)]).den ν ρ) ∧ c'.hp.Sublist tDq.hp ∧ pcDen ν c'.pc := fun h =>
    ⟨_, List.mem_cons_self .., rfl, fun _ => rfl, List.Sublist.refl _, pcDen_one ((hR false).2 (by simp [h]))⟩
  have yes : Right 1 (ν.i 0) (ν.i 1) → (rightB 1 (.var 0) (.var 1)).den ν = true := fun h => (hR true).2 (by simp [h])
  have room : ∀ b : Bool, roomB.den ν = b ↔ ((ν.i 0 + ν.i 1 + 1 < ((ν.l 0).length : Int)) ↔ b = true) := fun b => by
    simp only [roomB, SB.den]
    simp only [SI.den, SL.den]
    exact dec_iff
  have many : ∀ b : Bool, manySB.den ν = b ↔ ((-1 ≤ manyZ (ν.l 0) (ν.i 0) ∧ manyZ (ν.l 0) (ν.i 0) ≤ ν.i 1) ↔ b = true) := fun b => by
    simp only [manySB, manyX, SB.den]
    simp only [SI.den, SL.den]
    exact dec_and2
  have pos : ∀ b : Bool, (SB.lt (.lit 0) manyX).den ν = b ↔ ((0 < manyZ (ν.l 0) (ν.i 0)) ↔ b = true) := fun b => by
    simp only [manyX, SB.den]
    simp only [SI.den, SL.den]
    exact dec_iff
  have big : ¬ ((ν.l 0).length : Int) < 1099511627776 → ∃ c' ∈ shDq, c'.bad = true ∧ (∀ ρ, c'.v.den ν ρ = (SV.tup []).den ν ρ) ∧ c'.hp.Sublist [] ∧ pcDen ν c'.pc := fun h =>
    ⟨_, List.mem_of_getElem? (show shDq[5]? = some _ from rfl), rfl, fun _ => rfl, List.Sublist.refl _, pcDen_one (by simp only [SB.den]; simp only [SI.den, SL.den]; exact decide_eq_false h)⟩
  -- what holds behind Right
  have right : bitsDen 0 .i64 (ν.i 1) (IntKind.i64.wrap (ν.i 1 - 1)) = 0 → ¬ 256 < ν.i 1 → ¬ ν.i 1 < 2 → ¬ ν.i 0 < 0 → ν.i 0 < IntKind.i64.wrap (IntKind.i64.wrap (65536 - ν.i 1) - 1) → Right 1 (ν.i 0) (ν.i 1) ∧ IntKind.i64.wrap (IntKind.i64.wrap (ν.i 0 + ν.i 1) + 1) = ν.i 0 + ν.i 1 + 1 ∧ IntKind.i64.wrap (ν.i 0 + 1) = ν.i 0 + 1 ∧ ν.i 0 < 65536 := by
    intro h1 h2 h3 h4 h5
    rw [wrapS (65536 - ν.i 1) (by omega) (by omega), wrapS _ (by omega) (by omega)] at h5
    refine ⟨⟨by omega, by omega, (bits_iff _ (by omega) (by omega)).1 h1⟩, ?_, wrapS _ (by omega) (by omega), by omega⟩
    rw [wrapS (ν.i 0 + ν.i 1) (by omega) (by omega), wrapS _ (by omega) (by omega)]
  have noPow : ¬ ν.i 1 < 2 → ¬ 256 < ν.i 1 → bitsDen 0 .i64 (ν.i 1) (IntKind.i64.wrap (ν.i 1 - 1)) ≠ 0 → ¬ Right 1 (ν.i 0) (ν.i 1) := fun h1 h2 h3 ⟨_, _, r3⟩ => h3 ((bits_iff _ (by omega) (by omega)).2 r3)
  simp only [ouDq, List.mem_cons, List.not_mem_nil, or_false] at hc
  rcases hc with rfl | rfl | rfl | rfl | rfl | rfl | rfl | rfl | rfl | rfl | rfl | rfl | rfl | rfl | rfl | rfl
  all_goals
    simp only [pcDen_cons_iff, SB.den, decide_eq_true_eq, decide_eq_false_iff_not, beq_iff_eq, beq_eq_false_iff_ne] at hp
    simp only [SI.den, SL.den] at hp
  · refine arg fun ⟨r1, r2, r3⟩ => ?_
    rw [wrapS (65536 - ν.i 1) (by omega) (by omega), wrapS _ (by omega) (by omega)] at hp
    omega
  · obtain ⟨h1, h2, h3, h4, h5, h6, -⟩ := hp
    obtain ⟨r, e1, e2, e3⟩ := right h4 h5 h6 h3 h2
    rw [e1] at h1
    exact ⟨_, List.mem_of_getElem? (show shDq[1]? = some _ from rfl), rfl, fun _ => rfl, List.Sublist.refl _, pcDen_cons ((room false).2 (by simp; omega)) (pcDen_one (yes r))⟩
  · exact big hp.1
  · obtain ⟨h1, h2, h3, h4, h5, h6, h7, h8, -⟩ := hp
    obtain ⟨r, e1, e2, e3⟩ := right h6 h7 h8 h5 h4
    have := r.2.2.le
    omega
  · obtain ⟨h1, h2, h3, h4, h5, h6, h7, h8, h9, -⟩ := hp
    obtain ⟨r, e1, e2, e3⟩ := right h7 h8 h9 h6 h5
    omega
  · obtain ⟨h1, h2, h3, h4, h5, h6, h7, h8, h9, h10, -⟩ := hp
    obtain ⟨r, e1, e2, e3⟩ := right h8 h9 h10 h7 h6
    have := r.2.2.le
    omega
  · obtain ⟨h1, h2, h3, h4, h5, h6, h7, h8, h9, h10, h11, -⟩ := hp
    obtain ⟨r, e1, e2, e3⟩ := right h9 h10 h11 h8 h7
    have h1 : manyZ (ν.l 0) (ν.i 0) < -1 := h1
    exact ⟨_, List.mem_of_getElem? (show shDq[2]? = some _ from rfl), rfl, fun _ => rfl, .cons_cons _ (.cons_cons _ (.cons _ .slnil)), pcDen_cons ((many false).2 (by simp; omega)) (pcDen_cons ((room true).2 (by simp; omega)) (pcDen_one (yes r)))⟩
  · obtain ⟨h0, h1, h2, h3, h4, h5, h6, h7, h8, h9, h10, h11, -⟩ := hp
    obtain ⟨r, e1, e2, e3⟩ := right h9 h10 h11 h8 h7
    have h0 : ν.i 1 < manyZ (ν.l 0) (ν.i 0) := h0
    exact ⟨_, List.mem_of_getElem? (show shDq[2]? = some _ from rfl), rfl, fun _ => rfl, .cons_cons _ (.cons_cons _ (.cons _ .slnil)), pcDen_cons ((many false).2 (by simp; omega)) (pcDen_cons ((room true).2 (by simp; omega)) (pcDen_one (yes r)))⟩
  · obtain ⟨h, h0, h1, h2, h3, h4, h5, h6, h7, h8, h9, h10, h11, -⟩ := hp
    obtain ⟨r, e1, e2, e3⟩ := right h9 h10 h11 h8 h7
    have h : 0 < manyZ (ν.l 0) (ν.i 0) := h
    have h0 : ¬ ν.i 1 < manyZ (ν.l 0) (ν.i 0) := h0
    have h1 : ¬ manyZ (ν.l 0) (ν.i 0) < -1 := h1
    exact ⟨_, List.mem_of_getElem? (show shDq[3]? = some _ from rfl), rfl, fun _ => rfl, .cons_cons _ (.cons_cons _ (.cons _ (.cons_cons _ .slnil))), pcDen_cons ((pos true).2 (by simp; omega)) (pcDen_cons ((many true).2 (by simp; omega)) (pcDen_cons ((room true).2 (by simp; omega)) (pcDen_one (yes r))))⟩
  · obtain ⟨h, h0, h1, h2, h3, h4, h5, h6, h7, h8, h9, h10, h11, -⟩ := hp
    obtain ⟨r, e1, e2, e3⟩ := right h9 h10 h11 h8 h7
    have h : ¬ 0 < manyZ (ν.l 0) (ν.i 0) := h
    have h0 : ¬ ν.i 1 < manyZ (ν.l 0) (ν.i 0) := h0
    have h1 : ¬ manyZ (ν.l 0) (ν.i 0) < -1 := h1
    exact ⟨_, List.mem_of_getElem? (show shDq[4]? = some _ from rfl), rfl, fun _ => rfl, .cons_cons _ (.cons_cons _ (.cons _ .slnil)), pcDen_cons ((pos false).2 (by simp; omega)) (pcDen_cons ((many true).2 (by simp; omega)) (pcDen_cons ((room true).2 (by simp; omega)) (pcDen_one (yes r))))⟩
  · obtain ⟨h2, h3, h4, h5, h6, h7, h8, h9, -⟩ := hp
    obtain ⟨r, e1, e2, e3⟩ := right h7 h8 h9 h6 h5
    omega
  · obtain ⟨h1, h2, h3, h4, h5, h6, h7, h8, h9, -⟩ := hp
    obtain ⟨r, e1, e2, e3⟩ := right h7 h8 h9 h6 h5
    have := r.2.2.le
    omega
  · exact arg fun ⟨r1, r2, r3⟩ => by omega
  · exact arg (noPow hp.2.2.1 hp.2.1 hp.1)
  · exact arg fun ⟨r1, r2, r3⟩ => by have := r3.le; omega
  · exact arg fun ⟨r1, r2, r3⟩ => by have := r3.le; omega
theorem dq_ok {O : Orac} (oo : OOK Tryz.prog O inM) : OOK Tryz.prog (O.withCallF fDq (sumK Tryz.prog tDq shDq)) inM := withCallF_ok oo (sum_okC pr oDq_ok runDq shDq_ok oo)
end Go.Proofs.YtiofchhmdkhfoaaGreat
end

section
namespace Go.Proofs.YtiofchhmdkhfoaaGreat
open Go Go.Sy Go.RowKit

def fR7 : Nat := 19
def tR7 : Tmpl := ⟨[.int .i64 (.var 0), .int .i64 (.var 1)], [], []⟩
def fQ7 : Nat := 20
/-- the words of a row: its cells alone; how many, and which. -/
def tQ7 : Tmpl := ⟨[.sl 0 (.var 0) (.len (.var 0)) (.var 1)], [(.lt (.len (.var 0)) (.lit 4), false), (.lt (.lit 300) (.len (.var 0)), false), (powB (.sub (.len (.var 0)) (.lit 2)), true), (.lt (.var 0) (.lit 0), false)], [(0, .view .u64 (.var 0) (.var 0))]⟩
def nQ7 : Nat := nmAt 7
def eQ7 (P : Program) : Leaf := capN 0 (capAll P noOrac fQ7 7 tQ7.args tQ7.pc tQ7.hp)
def topY : SI := .nth (.var 0) (.lit 0)
def manyY : SI := .wrap .i64 (.wrap .u64 (.sub (.nth (.var 0) (.lit 1)) (.nth (.var 0) (.lit 0))))
def sizeY : SI := .sub (.len (.var 0)) (.lit 2)
def listY : SL := .gl 0 (.app 40 (.var 0) (.var 0) (.lit 0) sizeY topY manyY (.var 0)) (.lit 0) (.lit 0)
def hQ7 (P : Program) : Leaf := hdFrom 8 (hdI nQ7 7 0 (hdR P nQ7 6 1 (eQ7 P)))
def pQ7 (P : Program) : PC := (.lt (.var (nQ7 + 0)) (.lit 0), false) :: (.lt (.lit 300) (.var (nQ7 + 0)), false) :: (.lt (.len (.var (nQ7 + 1))) (.lit 1000), true) :: (eQ7 P).pc
def xQ7 (P : Program) : Leaf := { hQ7 P with fr := ((hQ7 P).fr.set 6 (.sl (nQ7 + 1) (.lit 0) (.len listY) (.var (nQ7 + 1)))).set 7 .dead, hp := hset (nQ7 + 1) (.row .u64 listY (.var (nQ7 + 1)) 41) (hQ7 P).hp }
def gQ7 (P : Program) : List Tgt := [⟨.exit 0, (xQ7 P).fr, (xQ7 P).hp, []⟩]
def bQ7 (P : Program) : PC := (eQ7 P).pc.map fun x => (x.1, !x.2)
def sQ7 (P : Program) : Option (List SumT) := (codeX P noOrac LO7 SZ7 fQ7 6000 0 (loopAt P fQ7 7) (hQ7 P).fr (pQ7 P) (hQ7 P).hp).bind (sumsT P nQ7 LO7 SZ7 (⟨.normal, (hQ7 P).fr, (hQ7 P).hp, pQ7 P⟩ :: gQ7 P))
def oQ7 (P : Program) : Orac := noOrac.withLoop fQ7 7 nQ7 (eQ7 P).fr (eQ7 P).hp (mkM nQ7 (gQ7 P) (bQ7 P))
end Go.Proofs.YtiofchhmdkhfoaaGreat
end

section
namespace Go.Proofs.YtiofchhmdkhfoaaGreat
open Go Go.Sy Go.RowKit

def pcQ7 : PC := [((.lt (.wrap .i64 (.sub (.len (.var 0)) (.lit 2))) (.wrap .i64 (.wrap .u64 (.sub (.nth (.var 0) (.lit 1)) (.nth (.var 0) (.lit 0)))))), false), ((.lt (.wrap .i64 (.wrap .u64 (.sub (.nth (.var 0) (.lit 1)) (.nth (.var 0) (.lit 0))))) (.lit (-1))), false), ((.lt (.lit 0) (.len (.var 0))), true), ((.lt (.lit 1) (.len (.var 0))), true), ((.lt (.len (.var 0)) (.lit 4)), false), ((.lt (.lit 300) (.len (.var 0))), false), ((.or (.eq (.sub (.len (.var 0)) (.lit 2)) (.lit 2)) (.or (.eq (.sub (.len (.var 0)) (.lit 2)) (.lit 4)) (.or (.eq (.sub (.len (.var 0)) (.lit 2)) (.lit 8)) (.or (.eq (.sub (.len (.var 0)) (.lit 2)) (.lit 16)) (.or (.eq (.sub (.len (.var 0)) (.lit 2)) (.lit 32)) (.or (.eq (.sub (.len (.var 0)) (.lit 2)) (.lit 64)) (.or (.eq (.sub (.len (.var 0)) (.lit 2)) (.lit 128)) (.eq (.sub (.len (.var 0)) (.lit 2)) (.lit 256))))))))), true), ((.lt (.var 0) (.lit 0)), false)]
def startQ7 : Mt := ⟨[((nQ7 + 1), 4149515568899862770636515570452368923917387576697021506097739531832533842914136267211667793207534427914086180449008131057548970299910628231036498797276770858318345283619756500320256)], [(0, (.lit 0)), (1, (.lit 0))], [(1, .nil)], [], [((.lit 0), (.len (.var (nQ7 + 1))))], [], [], []⟩
def sumsQ7 : List SumT := [
  ⟨.bad, 0, ⟨[], [], [], [], [], [], [], []⟩, [((.lt (.wrap .i64 (.add (.lit 2) (.wrap .i64 (.tmod (.wrap .u64 (.add (.nth (.var 0) (.lit 0)) (.wrap .u64 (.var (nQ7 + 0))))) (.wrap .u64 (.wrap .i64 (.sub (.len (.var 0)) (.lit 2)))))))) (.lit 0)), true), ((.eq (.wrap .u64 (.wrap .i64 (.sub (.len (.var 0)) (.lit 2)))) (.lit 0)), false), ((.lt (.var (nQ7 + 0)) (.wrap .i64 (.wrap .u64 (.sub (.nth (.var 0) (.lit 1)) (.nth (.var 0) (.lit 0)))))), true), ((.lt (.var (nQ7 + 0)) (.lit 0)), false), ((.lt (.lit 300) (.var (nQ7 + 0))), false), ((.lt (.len (.var (nQ7 + 1))) (.lit 1000)), true), ((.lt (.wrap .i64 (.sub (.len (.var 0)) (.lit 2))) (.wrap .i64 (.wrap .u64 (.sub (.nth (.var 0) (.lit 1)) (.nth (.var 0) (.lit 0)))))), false), ((.lt (.wrap .i64 (.wrap .u64 (.sub (.nth (.var 0) (.lit 1)) (.nth (.var 0) (.lit 0))))) (.lit (-1))), false), ((.lt (.lit 0) (.len (.var 0))), true), ((.lt (.lit 1) (.len (.var 0))), true), ((.lt (.len (.var 0)) (.lit 4)), false), ((.lt (.lit 300) (.len (.var 0))), false), ((.or (.eq (.sub (.len (.var 0)) (.lit 2)) (.lit 2)) (.or (.eq (.sub (.len (.var 0)) (.lit 2)) (.lit 4)) (.or (.eq (.sub (.len (.var 0)) (.lit 2)) (.lit 8)) (.or (.eq (.sub (.len (.var 0)) (.lit 2)) (.lit 16)) (.or (.eq (.sub (.len (.var 0)) (.lit 2)) (.lit 32)) (.or (.eq (.sub (.len (.var 0)) (.lit 2)) (.lit 64)) (.or (.eq (.sub (.len (.var 0)) (.lit 2)) (.lit 128)) (.eq (.sub (.len (.var 0)) (.lit 2)) (.lit 256))))))))), true), ((.lt (.var 0) (.lit 0)), false)]⟩,
  ⟨.bad, 0, ⟨[], [], [], [], [], [], [], []⟩, [((.lt (.wrap .i64 (.add (.lit 2) (.wrap .i64 (.tmod (.wrap .u64 (.add (.nth (.var 0) (.lit 0)) (.wrap .u64 (.var (nQ7 + 0))))) (.wrap .u64 (.wrap .i64 (.sub (.len (.var 0)) (.lit 2)))))))) (.len (.var 0))), false), ((.lt (.wrap .i64 (.add (.lit 2) (.wrap .i64 (.tmod (.wrap .u64 (.add (.nth (.var 0) (.lit 0)) (.wrap .u64 (.var (nQ7 + 0))))) (.wrap .u64 (.wrap .i64 (.sub (.len (.var 0)) (.lit 2)))))))) (.lit 0)), false), ((.eq (.wrap .u64 (.wrap .i64 (.sub (.len (.var 0)) (.lit 2)))) (.lit 0)), false), ((.lt (.var (nQ7 + 0)) (.wrap .i64 (.wrap .u64 (.sub (.nth (.var 0) (.lit 1)) (.nth (.var 0) (.lit 0)))))), true), ((.lt (.var (nQ7 + 0)) (.lit 0)), false), ((.lt (.lit 300) (.var (nQ7 + 0))), false), ((.lt (.len (.var (nQ7 + 1))) (.lit 1000)), true), ((.lt (.wrap .i64 (.sub (.len (.var 0)) (.lit 2))) (.wrap .i64 (.wrap .u64 (.sub (.nth (.var 0) (.lit 1)) (.nth (.var 0) (.lit 0)))))), false), ((.lt (.wrap .i64 (.wrap .u64 (.sub (.nth (.var 0) (.lit 1)) (.nth (.var 0) (.lit 0))))) (.lit (-1))), false), ((.lt (.lit 0) (.len (.var 0))), true), ((.lt (.lit 1) (.len (.var 0))), true), ((.lt (.len (.var 0)) (.lit 4)), false), ((.lt (.lit 300) (.len (.var 0))), false), ((.or (.eq (.sub (.len (.var 0)) (.lit 2)) (.lit 2)) (.or (.eq (.sub (.len (.var 0)) (.lit 2)) (.lit 4)) (.or (.eq (.sub (.len (.var 0)) (.lit 2)) (.lit 8)) (.or (.eq (.sub (.len (.var 0)) (.lit 2)) (.lit 16)) (.or (.eq (.sub (.len (.var 0)) (.lit 2)) (.lit 32)) (.or (.eq (.sub (.len (.var 0)) (.lit 2)) (.lit 64)) (.or (.eq (.sub (.len (.var 0)) (.lit 2)) (.lit 128)) (.eq (.sub (.len (.var 0)) (.lit 2)) (.lit 256))))))))), true), ((.lt (.var 0) (.lit 0)), false)]⟩,
  ⟨.bad, 0, ⟨[], [], [], [], [], [], [], []⟩, [((.lt (.add (.len (.var (nQ7 + 1))) (.lit 1)) (.lit 1099511627776)), false), ((.lt (.wrap .i64 (.add (.lit 2) (.wrap .i64 (.tmod (.wrap .u64 (.add (.nth (.var 0) (.lit 0)) (.wrap .u64 (.var (nQ7 + 0))))) (.wrap .u64 (.wrap .i64 (.sub (.len (.var 0)) (.lit 2)))))))) (.len (.var 0))), true), ((.lt (.wrap .i64 (.add (.lit 2) (.wrap .i64 (.tmod (.wrap .u64 (.add (.nth (.var 0) (.lit 0)) (.wrap .u64 (.var (nQ7 + 0))))) (.wrap .u64 (.wrap .i64 (.sub (.len (.var 0)) (.lit 2)))))))) (.lit 0)), false), ((.eq (.wrap .u64 (.wrap .i64 (.sub (.len (.var 0)) (.lit 2)))) (.lit 0)), false), ((.lt (.var (nQ7 + 0)) (.wrap .i64 (.wrap .u64 (.sub (.nth (.var 0) (.lit 1)) (.nth (.var 0) (.lit 0)))))), true), ((.lt (.var (nQ7 + 0)) (.lit 0)), false), ((.lt (.lit 300) (.var (nQ7 + 0))), false), ((.lt (.len (.var (nQ7 + 1))) (.lit 1000)), true), ((.lt (.wrap .i64 (.sub (.len (.var 0)) (.lit 2))) (.wrap .i64 (.wrap .u64 (.sub (.nth (.var 0) (.lit 1)) (.nth (.var 0) (.lit 0)))))), false), ((.lt (.wrap .i64 (.wrap .u64 (.sub (.nth (.var 0) (.lit 1)) (.nth (.var 0) (.lit 0))))) (.lit (-1))), false), ((.lt (.lit 0) (.len (.var 0))), true), ((.lt (.lit 1) (.len (.var 0))), true), ((.lt (.len (.var 0)) (.lit 4)), false), ((.lt (.lit 300) (.len (.var 0))), false), ((.or (.eq (.sub (.len (.var 0)) (.lit 2)) (.lit 2)) (.or (.eq (.sub (.len (.var 0)) (.lit 2)) (.lit 4)) (.or (.eq (.sub (.len (.var 0)) (.lit 2)) (.lit 8)) (.or (.eq (.sub (.len (.var 0)) (.lit 2)) (.lit 16)) (.or (.eq (.sub (.len (.var 0)) (.lit 2)) (.lit 32)) (.or (.eq (.sub (.len (.var 0)) (.lit 2)) (.lit 64)) (.or (.eq (.sub (.len (.var 0)) (.lit 2)) (.lit 128)) (.eq (.sub (.len (.var 0)) (.lit 2)) (.lit 256))))))))), true), ((.lt (.var 0) (.lit 0)), false)]⟩,
  ⟨.normal, 0, ⟨[((nQ7 + 1), 5260135901548373507240989921337838957939382542316169940187962450652083834719986011273418667850558707401815669688663147354777397713201816976663528913090141016871557224624000560759879209567355671196483517251846144)], [(0, (.wrap .i64 (.add (.var (nQ7 + 0)) (.lit 1)))), (1, (.var 5260135901548373507240989921337838957939382542316169940187962450652083834719986011273418667850558707401815669688663147354777397713201816976663528913090141016871557224624000560759879209567355671196483517251846144))], [(1, (.app (.var (nQ7 + 1)) (.cons (.nth (.var 0) (.wrap .i64 (.add (.lit 2) (.wrap .i64 (.tmod (.wrap .u64 (.add (.nth (.var 0) (.lit 0)) (.wrap .u64 (.var (nQ7 + 0))))) (.wrap .u64 (.wrap .i64 (.sub (.len (.var 0)) (.lit 2))))))))) .nil)))], [], [((.add (.len (.var (nQ7 + 1))) (.lit 1)), (.len (.var (nQ7 + 1))))], [], [], []⟩, [((.lt (.add (.len (.var (nQ7 + 1))) (.lit 1)) (.lit 1099511627776)), true), ((.lt (.wrap .i64 (.add (.lit 2) (.wrap .i64 (.tmod (.wrap .u64 (.add (.nth (.var 0) (.lit 0)) (.wrap .u64 (.var (nQ7 + 0))))) (.wrap .u64 (.wrap .i64 (.sub (.len (.var 0)) (.lit 2)))))))) (.len (.var 0))), true), ((.lt (.wrap .i64 (.add (.lit 2) (.wrap .i64 (.tmod (.wrap .u64 (.add (.nth (.var 0) (.lit 0)) (.wrap .u64 (.var (nQ7 + 0))))) (.wrap .u64 (.wrap .i64 (.sub (.len (.var 0)) (.lit 2)))))))) (.lit 0)), false), ((.eq (.wrap .u64 (.wrap .i64 (.sub (.len (.var 0)) (.lit 2)))) (.lit 0)), false), ((.lt (.var (nQ7 + 0)) (.wrap .i64 (.wrap .u64 (.sub (.nth (.var 0) (.lit 1)) (.nth (.var 0) (.lit 0)))))), true), ((.lt (.var (nQ7 + 0)) (.lit 0)), false), ((.lt (.lit 300) (.var (nQ7 + 0))), false), ((.lt (.len (.var (nQ7 + 1))) (.lit 1000)), true), ((.lt (.wrap .i64 (.sub (.len (.var 0)) (.lit 2))) (.wrap .i64 (.wrap .u64 (.sub (.nth (.var 0) (.lit 1)) (.nth (.var 0) (.lit 0)))))), false), ((.lt (.wrap .i64 (.wrap .u64 (.sub (.nth (.var 0) (.lit 1)) (.nth (.var 0) (.lit 0))))) (.lit (-1))), false), ((.lt (.lit 0) (.len (.var 0))), true), ((.lt (.lit 1) (.len (.var 0))), true), ((.lt (.len (.var 0)) (.lit 4)), false), ((.lt (.lit 300) (.len (.var 0))), false), ((.or (.eq (.sub (.len (.var 0)) (.lit 2)) (.lit 2)) (.or (.eq (.sub (.len (.var 0)) (.lit 2)) (.lit 4)) (.or (.eq (.sub (.len (.var 0)) (.lit 2)) (.lit 8)) (.or (.eq (.sub (.len (.var 0)) (.lit 2)) (.lit 16)) (.or (.eq (.sub (.len (.var 0)) (.lit 2)) (.lit 32)) (.or (.eq (.sub (.len (.var 0)) (.lit 2)) (.lit 64)) (.or (.eq (.sub (.len (.var 0)) (.lit 2)) (.lit 128)) (.eq (.sub (.len (.var 0)) (.lit 2)) (.lit 256))))))))), true), ((.lt (.var 0) (.lit 0)), false)]⟩,
  ⟨.bad, 0, ⟨[], [], [], [], [], [], [], []⟩, [((.eq (.wrap .u64 (.wrap .i64 (.sub (.len (.var 0)) (.lit 2)))) (.lit 0)), true), ((.lt (.var (nQ7 + 0)) (.wrap .i64 (.wrap .u64 (.sub (.nth (.var 0) (.lit 1)) (.nth (.var 0) (.lit 0)))))), true), ((.lt (.var (nQ7 + 0)) (.lit 0)), false), ((.lt (.lit 300) (.var (nQ7 + 0))), false), ((.lt (.len (.var (nQ7 + 1))) (.lit 1000)), true), ((.lt (.wrap .i64 (.sub (.len (.var 0)) (.lit 2))) (.wrap .i64 (.wrap .u64 (.sub (.nth (.var 0) (.lit 1)) (.nth (.var 0) (.lit 0)))))), false), ((.lt (.wrap .i64 (.wrap .u64 (.sub (.nth (.var 0) (.lit 1)) (.nth (.var 0) (.lit 0))))) (.lit (-1))), false), ((.lt (.lit 0) (.len (.var 0))), true), ((.lt (.lit 1) (.len (.var 0))), true), ((.lt (.len (.var 0)) (.lit 4)), false), ((.lt (.lit 300) (.len (.var 0))), false), ((.or (.eq (.sub (.len (.var 0)) (.lit 2)) (.lit 2)) (.or (.eq (.sub (.len (.var 0)) (.lit 2)) (.lit 4)) (.or (.eq (.sub (.len (.var 0)) (.lit 2)) (.lit 8)) (.or (.eq (.sub (.len (.var 0)) (.lit 2)) (.lit 16)) (.or (.eq (.sub (.len (.var 0)) (.lit 2)) (.lit 32)) (.or (.eq (.sub (.len (.var 0)) (.lit 2)) (.lit 64)) (.or (.eq (.sub (.len (.var 0)) (.lit 2)) (.lit 128)) (.eq (.sub (.len (.var 0)) (.lit 2)) (.lit 256))))))))), true), ((.lt (.var 0) (.lit 0)), false)]⟩,
  ⟨.exit 0, 0, ⟨[((nQ7 + 1), (nQ7 + 1))], [(1, (.var (nQ7 + 1)))], [], [], [((.len (.var (nQ7 + 1))), (.len (.gl 0 (.app 40 (.var 0) (.var 0) (.lit 0) (.sub (.len (.var 0)) (.lit 2)) (.nth (.var 0) (.lit 0)) (.wrap .i64 (.wrap .u64 (.sub (.nth (.var 0) (.lit 1)) (.nth (.var 0) (.lit 0))))) (.var 0)) (.lit 0) (.lit 0))))], [((.var (nQ7 + 1)), (.gl 0 (.app 40 (.var 0) (.var 0) (.lit 0) (.sub (.len (.var 0)) (.lit 2)) (.nth (.var 0) (.lit 0)) (.wrap .i64 (.wrap .u64 (.sub (.nth (.var 0) (.lit 1)) (.nth (.var 0) (.lit 0))))) (.var 0)) (.lit 0) (.lit 0)))], [], []⟩, [((.lt (.var (nQ7 + 0)) (.wrap .i64 (.wrap .u64 (.sub (.nth (.var 0) (.lit 1)) (.nth (.var 0) (.lit 0)))))), false), ((.lt (.var (nQ7 + 0)) (.lit 0)), false), ((.lt (.lit 300) (.var (nQ7 + 0))), false), ((.lt (.len (.var (nQ7 + 1))) (.lit 1000)), true), ((.lt (.wrap .i64 (.sub (.len (.var 0)) (.lit 2))) (.wrap .i64 (.wrap .u64 (.sub (.nth (.var 0) (.lit 1)) (.nth (.var 0) (.lit 0)))))), false), ((.lt (.wrap .i64 (.wrap .u64 (.sub (.nth (.var 0) (.lit 1)) (.nth (.var 0) (.lit 0))))) (.lit (-1))), false), ((.lt (.lit 0) (.len (.var 0))), true), ((.lt (.lit 1) (.len (.var 0))), true), ((.lt (.len (.var 0)) (.lit 4)), false), ((.lt (.lit 300) (.len (.var 0))), false), ((.or (.eq (.sub (.len (.var 0)) (.lit 2)) (.lit 2)) (.or (.eq (.sub (.len (.var 0)) (.lit 2)) (.lit 4)) (.or (.eq (.sub (.len (.var 0)) (.lit 2)) (.lit 8)) (.or (.eq (.sub (.len (.var 0)) (.lit 2)) (.lit 16)) (.or (.eq (.sub (.len (.var 0)) (.lit 2)) (.lit 32)) (.or (.eq (.sub (.len (.var 0)) (.lit 2)) (.lit 64)) (.or (.eq (.sub (.len (.var 0)) (.lit 2)) (.lit 128)) (.eq (.sub (.len (.var 0)) (.lit 2)) (.lit 256))))))))), true), ((.lt (.var 0) (.lit 0)), false)]⟩]
def ouQ7 : List CLeaf := [
  ⟨true, (.tup []), [((.lt (.lit 1) (.len (.var 0))), false), ((.lt (.len (.var 0)) (.lit 4)), false), ((.lt (.lit 300) (.len (.var 0))), false), ((.or (.eq (.sub (.len (.var 0)) (.lit 2)) (.lit 2)) (.or (.eq (.sub (.len (.var 0)) (.lit 2)) (.lit 4)) (.or (.eq (.sub (.len (.var 0)) (.lit 2)) (.lit 8)) (.or (.eq (.sub (.len (.var 0)) (.lit 2)) (.lit 16)) (.or (.eq (.sub (.len (.var 0)) (.lit 2)) (.lit 32)) (.or (.eq (.sub (.len (.var 0)) (.lit 2)) (.lit 64)) (.or (.eq (.sub (.len (.var 0)) (.lit 2)) (.lit 128)) (.eq (.sub (.len (.var 0)) (.lit 2)) (.lit 256))))))))), true), ((.lt (.var 0) (.lit 0)), false)], []⟩,
  ⟨true, (.tup []), [((.lt (.lit 0) (.len (.var 0))), false), ((.lt (.lit 1) (.len (.var 0))), true), ((.lt (.len (.var 0)) (.lit 4)), false), ((.lt (.lit 300) (.len (.var 0))), false), ((.or (.eq (.sub (.len (.var 0)) (.lit 2)) (.lit 2)) (.or (.eq (.sub (.len (.var 0)) (.lit 2)) (.lit 4)) (.or (.eq (.sub (.len (.var 0)) (.lit 2)) (.lit 8)) (.or (.eq (.sub (.len (.var 0)) (.lit 2)) (.lit 16)) (.or (.eq (.sub (.len (.var 0)) (.lit 2)) (.lit 32)) (.or (.eq (.sub (.len (.var 0)) (.lit 2)) (.lit 64)) (.or (.eq (.sub (.len (.var 0)) (.lit 2)) (.lit 128)) (.eq (.sub (.len (.var 0)) (.lit 2)) (.lit 256))))))))), true), ((.lt (.var 0) (.lit 0)), false)], []⟩,
  ⟨false, (.tup [.nilSl, (.bool (.lit false))]), [((.lt (.wrap .i64 (.wrap .u64 (.sub (.nth (.var 0) (.lit 1)) (.nth (.var 0) (.lit 0))))) (.lit (-1))), true), ((.lt (.lit 0) (.len (.var 0))), true), ((.lt (.lit 1) (.len (.var 0))), true), ((.lt (.len (.var 0)) (.lit 4)), false), ((.lt (.lit 300) (.len (.var 0))), false), ((.or (.eq (.sub (.len (.var 0)) (.lit 2)) (.lit 2)) (.or (.eq (.sub (.len (.var 0)) (.lit 2)) (.lit 4)) (.or (.eq (.sub (.len (.var 0)) (.lit 2)) (.lit 8)) (.or (.eq (.sub (.len (.var 0)) (.lit 2)) (.lit 16)) (.or (.eq (.sub (.len (.var 0)) (.lit 2)) (.lit 32)) (.or (.eq (.sub (.len (.var 0)) (.lit 2)) (.lit 64)) (.or (.eq (.sub (.len (.var 0)) (.lit 2)) (.lit 128)) (.eq (.sub (.len (.var 0)) (.lit 2)) (.lit 256))))))))), true), ((.lt (.var 0) (.lit 0)), false)], [(0, (.view .u64 (.var 0) (.var 0)))]⟩,
  ⟨false, (.tup [.nilSl, (.bool (.lit false))]), [((.lt (.wrap .i64 (.sub (.len (.var 0)) (.lit 2))) (.wrap .i64 (.wrap .u64 (.sub (.nth (.var 0) (.lit 1)) (.nth (.var 0) (.lit 0)))))), true), ((.lt (.wrap .i64 (.wrap .u64 (.sub (.nth (.var 0) (.lit 1)) (.nth (.var 0) (.lit 0))))) (.lit (-1))), false), ((.lt (.lit 0) (.len (.var 0))), true), ((.lt (.lit 1) (.len (.var 0))), true), ((.lt (.len (.var 0)) (.lit 4)), false), ((.lt (.lit 300) (.len (.var 0))), false), ((.or (.eq (.sub (.len (.var 0)) (.lit 2)) (.lit 2)) (.or (.eq (.sub (.len (.var 0)) (.lit 2)) (.lit 4)) (.or (.eq (.sub (.len (.var 0)) (.lit 2)) (.lit 8)) (.or (.eq (.sub (.len (.var 0)) (.lit 2)) (.lit 16)) (.or (.eq (.sub (.len (.var 0)) (.lit 2)) (.lit 32)) (.or (.eq (.sub (.len (.var 0)) (.lit 2)) (.lit 64)) (.or (.eq (.sub (.len (.var 0)) (.lit 2)) (.lit 128)) (.eq (.sub (.len (.var 0)) (.lit 2)) (.lit 256))))))))), true), ((.lt (.var 0) (.lit 0)), false)], [(0, (.view .u64 (.var 0) (.var 0)))]⟩,
  ⟨false, (.tup [(.sl (nQ7 + 1) (.lit 0) (.len (.gl 0 (.app 40 (.var 0) (.var 0) (.lit 0) (.sub (.len (.var 0)) (.lit 2)) (.nth (.var 0) (.lit 0)) (.wrap .i64 (.wrap .u64 (.sub (.nth (.var 0) (.lit 1)) (.nth (.var 0) (.lit 0))))) (.var 0)) (.lit 0) (.lit 0))) (.var (nQ7 + 1))), (.bool (.lit true))]), [((.lt (.wrap .i64 (.sub (.len (.var 0)) (.lit 2))) (.wrap .i64 (.wrap .u64 (.sub (.nth (.var 0) (.lit 1)) (.nth (.var 0) (.lit 0)))))), false), ((.lt (.wrap .i64 (.wrap .u64 (.sub (.nth (.var 0) (.lit 1)) (.nth (.var 0) (.lit 0))))) (.lit (-1))), false), ((.lt (.lit 0) (.len (.var 0))), true), ((.lt (.lit 1) (.len (.var 0))), true), ((.lt (.len (.var 0)) (.lit 4)), false), ((.lt (.lit 300) (.len (.var 0))), false), ((.or (.eq (.sub (.len (.var 0)) (.lit 2)) (.lit 2)) (.or (.eq (.sub (.len (.var 0)) (.lit 2)) (.lit 4)) (.or (.eq (.sub (.len (.var 0)) (.lit 2)) (.lit 8)) (.or (.eq (.sub (.len (.var 0)) (.lit 2)) (.lit 16)) (.or (.eq (.sub (.len (.var 0)) (.lit 2)) (.lit 32)) (.or (.eq (.sub (.len (.var 0)) (.lit 2)) (.lit 64)) (.or (.eq (.sub (.len (.var 0)) (.lit 2)) (.lit 128)) (.eq (.sub (.len (.var 0)) (.lit 2)) (.lit 256))))))))), true), ((.lt (.var 0) (.lit 0)), false)], [(0, (.view .u64 (.var 0) (.var 0))), ((nQ7 + 1), (.row .u64 (.gl 0 (.app 40 (.var 0) (.var 0) (.lit 0) (.sub (.len (.var 0)) (.lit 2)) (.nth (.var 0) (.lit 0)) (.wrap .i64 (.wrap .u64 (.sub (.nth (.var 0) (.lit 1)) (.nth (.var 0) (.lit 0))))) (.var 0)) (.lit 0) (.lit 0)) (.var (nQ7 + 1)) 41))]⟩,
  ⟨true, (.tup []), [((.lt (.lit 0) (.len (.var 0))), false), ((.lt (.len (.var 0)) (.lit 4)), false), ((.lt (.lit 300) (.len (.var 0))), false), ((.or (.eq (.sub (.len (.var 0)) (.lit 2)) (.lit 2)) (.or (.eq (.sub (.len (.var 0)) (.lit 2)) (.lit 4)) (.or (.eq (.sub (.len (.var 0)) (.lit 2)) (.lit 8)) (.or (.eq (.sub (.len (.var 0)) (.lit 2)) (.lit 16)) (.or (.eq (.sub (.len (.var 0)) (.lit 2)) (.lit 32)) (.or (.eq (.sub (.len (.var 0)) (.lit 2)) (.lit 64)) (.or (.eq (.sub (.len (.var 0)) (.lit 2)) (.lit 128)) (.eq (.sub (.len (.var 0)) (.lit 2)) (.lit 256))))))))), true), ((.lt (.var 0) (.lit 0)), false)], []⟩]
def ouR7 : List CLeaf := [
  ⟨false, (.bool (.lt (.var 0) (.wrap .i64 (.sub (.wrap .i64 (.sub (.lit 65536) (.var 1))) (.lit 1))))), [((.lt (.var 0) (.lit 0)), false), ((.eq (.lit 2) (.var 1)), true)], []⟩,
  ⟨false, (.bool (.lit false)), [((.lt (.var 0) (.lit 0)), true), ((.eq (.lit 2) (.var 1)), true)], []⟩,
  ⟨false, (.bool (.lt (.var 0) (.wrap .i64 (.sub (.wrap .i64 (.sub (.lit 65536) (.var 1))) (.lit 1))))), [((.lt (.var 0) (.lit 0)), false), ((.eq (.lit 4) (.var 1)), true), ((.eq (.lit 2) (.var 1)), false)], []⟩,
  ⟨false, (.bool (.lit false)), [((.lt (.var 0) (.lit 0)), true), ((.eq (.lit 4) (.var 1)), true), ((.eq (.lit 2) (.var 1)), false)], []⟩,
  ⟨false, (.bool (.lt (.var 0) (.wrap .i64 (.sub (.wrap .i64 (.sub (.lit 65536) (.var 1))) (.lit 1))))), [((.lt (.var 0) (.lit 0)), false), ((.eq (.lit 8) (.var 1)), true), ((.eq (.lit 4) (.var 1)), false), ((.eq (.lit 2) (.var 1)), false)], []⟩,
  ⟨false, (.bool (.lit false)), [((.lt (.var 0) (.lit 0)), true), ((.eq (.lit 8) (.var 1)), true), ((.eq (.lit 4) (.var 1)), false), ((.eq (.lit 2) (.var 1)), false)], []⟩,
  ⟨false, (.bool (.lt (.var 0) (.wrap .i64 (.sub (.wrap .i64 (.sub (.lit 65536) (.var 1))) (.lit 1))))), [((.lt (.var 0) (.lit 0)), false), ((.eq (.lit 16) (.var 1)), true), ((.eq (.lit 8) (.var 1)), false), ((.eq (.lit 4) (.var 1)), false), ((.eq (.lit 2) (.var 1)), false)], []⟩,
  ⟨false, (.bool (.lit false)), [((.lt (.var 0) (.lit 0)), true), ((.eq (.lit 16) (.var 1)), true), ((.eq (.lit 8) (.var 1)), false), ((.eq (.lit 4) (.var 1)), false), ((.eq (.lit 2) (.var 1)), false)], []⟩,
  ⟨false, (.bool (.lt (.var 0) (.wrap .i64 (.sub (.wrap .i64 (.sub (.lit 65536) (.var 1))) (.lit 1))))), [((.lt (.var 0) (.lit 0)), false), ((.eq (.lit 32) (.var 1)), true), ((.eq (.lit 16) (.var 1)), false), ((.eq (.lit 8) (.var 1)), false), ((.eq (.lit 4) (.var 1)), false), ((.eq (.lit 2) (.var 1)), false)], []⟩,
  ⟨false, (.bool (.lit false)), [((.lt (.var 0) (.lit 0)), true), ((.eq (.lit 32) (.var 1)), true), ((.eq (.lit 16) (.var 1)), false), ((.eq (.lit 8) (.var 1)), false), ((.eq (.lit 4) (.var 1)), false), ((.eq (.lit 2) (.var 1)), false)], []⟩,
  ⟨false, (.bool (.lt (.var 0) (.wrap .i64 (.sub (.wrap .i64 (.sub (.lit 65536) (.var 1))) (.lit 1))))), [((.lt (.var 0) (.lit 0)), false), ((.eq (.lit 64) (.var 1)), true), ((.eq (.lit 32) (.var 1)), false), ((.eq (.lit 16) (.var 1)), false), ((.eq (.lit 8) (.var 1)), false), ((.eq (.lit 4) (.var 1)), false), ((.eq (.lit 2) (.var 1)), false)], []⟩,
  ⟨false, (.bool (.lit false)), [((.lt (.var 0) (.lit 0)), true), ((.eq (.lit 64) (.var 1)), true), ((.eq (.lit 32) (.var 1)), false), ((.eq (.lit 16) (.var 1)), false), ((.eq (.lit 8) (.var 1)), false), ((.eq (.lit 4) (.var 1)), false), ((.eq (.lit 2) (.var 1)), false)], []⟩,
  ⟨false, (.bool (.lt (.var 0) (.wrap .i64 (.sub (.wrap .i64 (.sub (.lit 65536) (.var 1))) (.lit 1))))), [((.lt (.var 0) (.lit 0)), false), ((.eq (.lit 128) (.var 1)), true), ((.eq (.lit 64) (.var 1)), false), ((.eq (.lit 32) (.var 1)), false), ((.eq (.lit 16) (.var 1)), false), ((.eq (.lit 8) (.var 1)), false), ((.eq (.lit 4) (.var 1)), false), ((.eq (.lit 2) (.var 1)), false)], []⟩,
  ⟨false, (.bool (.lit false)), [((.lt (.var 0) (.lit 0)), true), ((.eq (.lit 128) (.var 1)), true), ((.eq (.lit 64) (.var 1)), false), ((.eq (.lit 32) (.var 1)), false), ((.eq (.lit 16) (.var 1)), false), ((.eq (.lit 8) (.var 1)), false), ((.eq (.lit 4) (.var 1)), false), ((.eq (.lit 2) (.var 1)), false)], []⟩,
  ⟨false, (.bool (.lt (.var 0) (.wrap .i64 (.sub (.wrap .i64 (.sub (.lit 65536) (.var 1))) (.lit 1))))), [((.lt (.var 0) (.lit 0)), false), ((.eq (.lit 256) (.var 1)), true), ((.eq (.lit 128) (.var 1)), false), ((.eq (.lit 64) (.var 1)), false), ((.eq (.lit 32) (.var 1)), false), ((.eq (.lit 16) (.var 1)), false), ((.eq (.lit 8) (.var 1)), false), ((.eq (.lit 4) (.var 1)), false), ((.eq (.lit 2) (.var 1)), false)], []⟩,
  ⟨false, (.bool (.lit false)), [((.lt (.var 0) (.lit 0)), true), ((.eq (.lit 256) (.var 1)), true), ((.eq (.lit 128) (.var 1)), false), ((.eq (.lit 64) (.var 1)), false), ((.eq (.lit 32) (.var 1)), false), ((.eq (.lit 16) (.var 1)), false), ((.eq (.lit 8) (.var 1)), false), ((.eq (.lit 4) (.var 1)), false), ((.eq (.lit 2) (.var 1)), false)], []⟩,
  ⟨false, (.bool (.lit false)), [((.eq (.lit 256) (.var 1)), false), ((.eq (.lit 128) (.var 1)), false), ((.eq (.lit 64) (.var 1)), false), ((.eq (.lit 32) (.var 1)), false), ((.eq (.lit 16) (.var 1)), false), ((.eq (.lit 8) (.var 1)), false), ((.eq (.lit 4) (.var 1)), false), ((.eq (.lit 2) (.var 1)), false)], []⟩]
theorem pcQ7_eq : (eQ7 Tryz.prog).pc = pcQ7 := by kernel_rfl
theorem avQ7 : pav nQ7 (nQ7 + 64) pcQ7 = true := by kernel_rfl
theorem bodyQ7 : sQ7 Tryz.prog = some sumsQ7 := by kernel_rfl
theorem stQ7 : mAll nQ7 0 0 Tryz.prog (eQ7 Tryz.prog).fr (eQ7 Tryz.prog).hp (hQ7 Tryz.prog).fr (hQ7 Tryz.prog).hp = some startQ7 := by kernel_rfl
theorem oneQ7 : (loopsAt Tryz.prog fQ7 7).length = 1 := by kernel_rfl
theorem runQ7 : runX Tryz.prog (oQ7 Tryz.prog) fQ7 tQ7.args tQ7.pc tQ7.hp = some ouQ7 := by kernel_rfl
theorem runR7 : runX Tryz.prog noOrac fR7 tR7.args tR7.pc tR7.hp = some ouR7 := by kernel_rfl
def manyW (l : List Int) : Int := IntKind.i64.wrap (IntKind.u64.wrap (l.getD 1 0 - l.getD 0 0))
structure FactsQ7 (ν : Env Gh) : Prop where
  len : 4 ≤ (ν.l 0).length ∧ (ν.l 0).length ≤ 300
  sz : Pow ((ν.l 0).length - 2)
  n1 : -1 ≤ manyW (ν.l 0)
  n2 : manyW (ν.l 0) ≤ (ν.l 0).length - 2
theorem factsQ7 {ν : Env Gh} (h : pcDen ν pcQ7) : FactsQ7 ν := by
  simp only [pcQ7, pcDen_cons_iff, pcDen_nil_iff, SB.den, decide_eq_true_eq, decide_eq_false_iff_not, beq_iff_eq, Bool.or_eq_true] at h
  simp only [SI.den, SL.den] at h
  obtain ⟨h1, h2, h3, h4, h5, h6, h7, h8, -⟩ := h
  rw [wrapS ((ν.l 0).length - 2) (by omega) (by omega)] at h1
  exact ⟨by omega, h7, by unfold manyW; exact Int.not_lt.1 h2, by unfold manyW; exact Int.not_lt.1 h1⟩
theorem bQ7_pc {ν : Env Gh} (h : ∀ x ∈ bQ7 Tryz.prog, x.1.den ν ≠ x.2) : pcDen ν pcQ7 := by
  intro c b hm
  have := h (c, !b) (by unfold bQ7; rw [pcQ7_eq]; exact List.mem_map.2 ⟨(c, b), hm, rfl⟩)
  revert this
  simp only
  cases c.den ν <;> cases b <;> simp
theorem idxQ7 (t i sz : Int) (h0 : 0 ≤ i) (h1 : Pow sz) : IntKind.i64.wrap (2 + IntKind.i64.wrap ((IntKind.u64.wrap (t + IntKind.u64.wrap i)).tmod (IntKind.u64.wrap (IntKind.i64.wrap sz)))) = 2 + (t + i) % 18446744073709551616 % sz ∧ 0 ≤ (t + i) % 18446744073709551616 % sz ∧ (t + i) % 18446744073709551616 % sz < sz ∧ IntKind.u64.wrap (IntKind.i64.wrap sz) = sz := by
  have hp := h1.le
  have e1 : IntKind.u64.wrap (IntKind.i64.wrap sz) = sz := by rw [wrapS _ (by omega) (by omega), wrapU]; omega
  have e2 : IntKind.u64.wrap (t + IntKind.u64.wrap i) = (t + i) % 18446744073709551616 := by rw [wrapU, wrapU]; omega
  have a0 := Int.emod_nonneg (t + i) (show (18446744073709551616 : Int) ≠ 0 by omega)
  have a := Int.emod_nonneg ((t + i) % 18446744073709551616) (show sz ≠ 0 by omega)
  have b := Int.emod_lt_of_pos ((t + i) % 18446744073709551616) (show 0 < sz by omega)
  rw [e1, e2, Int.tmod_eq_emod_of_nonneg a0, wrapS ((t + i) % 18446744073709551616 % sz) (by omega) (by omega), wrapS _ (by omega) (by omega)]
  exact ⟨rfl, a, b, rfl⟩
attribute [local irreducible] nmAt
theorem oQ7_ok : OOK Tryz.prog (oQ7 Tryz.prog) inM := by
  have hp : ∀ {ν : Env Gh} {x : Vals Gh}, (∀ x ∈ bQ7 Tryz.prog, x.1.den ν ≠ x.2) → 0 ≤ x.i 0 → x.i 0 ≤ 300 → (x.l 1).length < 1000 → pcDen (ν.at nQ7 x) (pQ7 Tryz.prog) := by
    intro ν x h h0 h1 h2
    have rf : RF nQ7 ν x (ν.at nQ7 x) := RF.self rfl
    have hold : pcDen (ν.at nQ7 x) pcQ7 := pcDen_agree (at_agree (ρ := fun _ => 0) (ρ' := fun _ => 0) (fun _ _ => rfl)) avQ7 (bQ7_pc h)
    unfold pQ7
    rw [pcQ7_eq]
    simp only [pcDen_cons_iff, SB.den, decide_eq_true_eq, decide_eq_false_iff_not]
    simp only [SI.den, SL.den, rf.i 0 (by decide), rf.l 1 (by decide)]
    exact ⟨by omega, by omega, by omega, hold⟩
  refine loopT_ok pr noOrac_ok (rfl : nQ7 = nmAt 7) (by decide +kernel) oneQ7 (ghL []) bodyQ7 stQ7
    (fun ν x => ∃ d : Nat, x.i 0 = d ∧ ((d : Int) ≤ manyW (ν.l 0) ∨ d = 0) ∧ x.l 1 = slotsG (ν.l 0) 0 ((ν.l 0).length - 2) ((ν.l 0).getD 0 0) d 18446744073709551616 2 1)
    (fun ν x => (manyW (ν.l 0) - x.i 0).toNat) ?_ ?_ noOrac_ok
  · intro ν hI h
    have F := factsQ7 (bQ7_pc h)
    generalize hy : Mt.vals startQ7 (ghL []) ν = y
    have y0 : y.i 0 = 0 := by rw [← hy]; simp only [startQ7, Mt.vals, lkp_cons, lkp_nil, Nat.reduceEqDiff, reduceIte, SI.den]
    have y1 : y.l 1 = [] := by rw [← hy]; simp only [startQ7, Mt.vals, lkp_cons, lkp_nil, Nat.reduceEqDiff, reduceIte, SL.den]
    refine ⟨⟨0, y0, .inr rfl, by rw [y1]; rfl⟩, hp h (by omega) (by omega) (by rw [y1]; simp), ?_⟩
    constructor <;> simp [startQ7, SI.den, SL.den, at_l, y1]
  · intro t ht ν x ν2 hI h hJ _ rf hpc
    have F := factsQ7 (bQ7_pc h)
    have F1 := F.len
    have F2 := F.n2
    have F3 := F.n1
    obtain ⟨d, j0, j1, j2⟩ := hJ
    have hidx := idxQ7 ((ν.l 0).getD 0 0) (x.i 0) ((ν.l 0).length - 2) (by omega) F.sz
    have hl : (x.l 1).length = d := by rw [j2, slotsG_length]; omega
    simp only [sumsQ7, List.mem_cons, List.not_mem_nil, or_false] at ht
    rcases ht with rfl | rfl | rfl | rfl | rfl | rfl
    all_goals
      simp only [pcDen_cons_iff, SB.den, decide_eq_true_eq, decide_eq_false_iff_not, beq_iff_eq, beq_eq_false_iff_ne] at hpc
      simp only [SI.den, SL.den, rf.i 0 (by decide), rf.l 1 (by decide), rf.lo 0 (by decide), Int.toNat_zero, show (1 : Int).toNat = 1 from rfl, hidx.1, hl] at hpc
    · show False
      omega
    · show False
      omega
    · show False
      omega
    · have hm : x.i 0 < manyW (ν.l 0) := hpc.2.2.2.2.1
      have e0 : IntKind.i64.wrap (x.i 0 + 1) = x.i 0 + 1 := wrapS _ (by omega) (by omega)
      generalize hy : Mt.vals _ (ghL []) ν2 = y
      have y0 : y.i 0 = x.i 0 + 1 := by
        rw [← hy]
        simp only [Mt.vals, lkp_cons, lkp_nil, Nat.reduceEqDiff, reduceIte, SI.den, SL.den, rf.i 0 (by decide)]
        exact e0
      have y1 : y.l 1 = x.l 1 ++ [(ν.l 0).getD (2 + ((ν.l 0).getD 0 0 + x.i 0) % 18446744073709551616 % ((ν.l 0).length - 2)).toNat 0] := by
        rw [← hy]
        simp only [Mt.vals, lkp_cons, lkp_nil, Nat.reduceEqDiff, reduceIte, SI.den, SL.den, rf.i 0 (by decide), rf.l 1 (by decide), rf.lo 0 (by decide), Int.toNat_zero, hidx.1]
      refine ⟨⟨d + 1, by omega, .inl (by omega), ?_⟩, hp h (by omega) (by omega) (by rw [y1]; simp [hl]; omega), by omega, ?_⟩
      · rw [slotsG_step, y1, j2, j0]
        simp only [List.append_cancel_left_eq, List.cons.injEq, and_true]
        rw [Int.one_mul, Int.zero_add]
      · constructor <;> simp [SI.den, SL.den, at_l, y1, rf.l 1 (by decide)]
    · show False
      have := F.sz.le
      have h1 := hpc.1
      rw [hidx.2.2.2] at h1
      omega
    · have rf3 : ∀ y, RF nQ7 ν y (ν.at nQ7 y) := fun y => RF.self rfl
      have hm : ¬ x.i 0 < manyW (ν.l 0) := hpc.1
      have e : ∀ y, listY.den (ν.at nQ7 y) = x.l 1 := by
        intro y
        simp only [listY, sizeY, topY, manyY, SL.den, SG.den, SI.den, (rf3 _).I, hI, (rf3 _).lo 0 (by decide), Int.toNat_zero, show (1 : Int).toNat = 1 from rfl]
        rw [j2]
        show slotsG _ _ _ _ (manyW (ν.l 0)) _ _ _ = _
        unfold slotsG
        rw [show (manyW (ν.l 0)).toNat = ((d : Nat) : Int).toNat by omega]
      refine ⟨fun g hg => by cases hg; exact pcDen_nil _, ?_⟩
      constructor
      · intro y hy
        simp only [List.mem_cons, List.not_mem_nil, or_false] at hy
        subst hy
        show ((SL.den _ _).length : Int) = ((SL.den (ν.at nQ7 _) listY).length : Int)
        rw [e]
        simp only [SL.den, rf.l 1 (by decide)]
      · intro y hy
        simp only [List.mem_cons, List.not_mem_nil, or_false] at hy
        subst hy
        show SL.den _ _ = SL.den (ν.at nQ7 _) listY
        rw [e]
        simp only [SL.den, rf.l 1 (by decide)]
      · simp
      · simp
/-! in short -/
theorem dec_and7 {x y a b : Int} {i : Decidable (x < y)} {j : Decidable (a < b)} {c : Bool} : (!@decide (x < y) i && !@decide (a < b) j) = c ↔ ((y ≤ x ∧ b ≤ a) ↔ c = true) := by
  by_cases h1 : x < y <;> by_cases h2 : a < b <;> cases c <;> simp [h1, h2] <;> omega
theorem dec_iff7 {p : Prop} {i : Decidable p} {b : Bool} : @decide p i = b ↔ (p ↔ b = true) := by
  by_cases h : p <;> cases b <;> simp [h]
def shR7 : List CLeaf := [⟨false, .bool (.lit true), [(rightB 1 (.var 0) (.var 1), true)], []⟩, ⟨false, .bool (.lit false), [(rightB 1 (.var 0) (.var 1), false)], []⟩]
theorem shR7_ok {G : Type} {I : In G} : ∀ c ∈ ouR7, ∀ ν : Env G, ν.I = I → pcDen ν c.pc → ∃ c' ∈ shR7, c'.bad = c.bad ∧ (∀ ρ, c'.v.den ν ρ = c.v.den ν ρ) ∧ c'.hp.Sublist c.hp ∧ pcDen ν c'.pc := by
  intro c hc ν hI hp
  have hR := rightB_den ν 1 (.var 0) (.var 1)
  have hN := rightB_no ν 1 (.var 0) (.var 1)
  simp only [SI.den] at hR hN
  have yes : Right 1 (ν.i 0) (ν.i 1) → ∃ c' ∈ shR7, c'.bad = false ∧ (∀ ρ, c'.v.den ν ρ = .bool true) ∧ c'.hp.Sublist [] ∧ pcDen ν c'.pc := fun h =>
    ⟨_, List.mem_cons_self .., rfl, fun _ => rfl, List.Sublist.refl _, pcDen_one (hR.2 h)⟩
  have no : ¬ Right 1 (ν.i 0) (ν.i 1) → ∃ c' ∈ shR7, c'.bad = false ∧ (∀ ρ, c'.v.den ν ρ = .bool false) ∧ c'.hp.Sublist [] ∧ pcDen ν c'.pc := fun h =>
    ⟨_, List.mem_of_getElem? (show shR7[1]? = some _ from rfl), rfl, fun _ => rfl, List.Sublist.refl _, pcDen_one (hN.2 h)⟩
  have lt : ∀ k : Int, ν.i 1 = k → (2 ≤ k ∧ k ≤ 256) → (SB.lt (.var 0) (.wrap .i64 (.sub (.wrap .i64 (.sub (.lit 65536) (.var 1))) (.lit 1)))).den ν = decide (ν.i 0 < 65535 - k) := fun k hk h => by
    simp only [SB.den]
    simp only [SI.den, hk]
    rw [wrapS (65536 - k) (by omega) (by omega), wrapS _ (by omega) (by omega)]
    congr 1
    simp only [eq_iff_iff]
    omega
  have step : ∀ k : Int, Pow k → ν.i 1 = k → ¬ ν.i 0 < 0 → ∃ c' ∈ shR7, c'.bad = false ∧ (∀ ρ, c'.v.den ν ρ = .bool ((SB.lt (.var 0) (.wrap .i64 (.sub (.wrap .i64 (.sub (.lit 65536) (.var 1))) (.lit 1)))).den ν)) ∧ c'.hp.Sublist [] ∧ pcDen ν c'.pc := by
    intro k hk hv h0
    have := hk.le
    by_cases hr : ν.i 0 < 65535 - k
    · rw [lt k hv this, decide_eq_true hr]
      exact yes ⟨by omega, by rw [hv]; omega, by rw [hv]; exact hk⟩
    · rw [lt k hv this, decide_eq_false hr]
      exact no fun ⟨_, r2, _⟩ => by rw [hv] at r2; omega
  simp only [ouR7, List.mem_cons, List.not_mem_nil, or_false] at hc
  rcases hc with rfl | rfl | rfl | rfl | rfl | rfl | rfl | rfl | rfl | rfl | rfl | rfl | rfl | rfl | rfl | rfl | rfl
  all_goals
    simp only [pcDen_cons_iff, SB.den, decide_eq_true_eq, decide_eq_false_iff_not, beq_iff_eq, beq_eq_false_iff_ne] at hp
    simp only [SI.den, SL.den] at hp
  · exact step 2 (by unfold Pow; omega) hp.2.1.symm hp.1
  · exact no fun ⟨r1, _, _⟩ => by omega
  · exact step 4 (by unfold Pow; omega) hp.2.1.symm hp.1
  · exact no fun ⟨r1, _, _⟩ => by omega
  · exact step 8 (by unfold Pow; omega) hp.2.1.symm hp.1
  · exact no fun ⟨r1, _, _⟩ => by omega
  · exact step 16 (by unfold Pow; omega) hp.2.1.symm hp.1
  · exact no fun ⟨r1, _, _⟩ => by omega
  · exact step 32 (by unfold Pow; omega) hp.2.1.symm hp.1
  · exact no fun ⟨r1, _, _⟩ => by omega
  · exact step 64 (by unfold Pow; omega) hp.2.1.symm hp.1
  · exact no fun ⟨r1, _, _⟩ => by omega
  · exact step 128 (by unfold Pow; omega) hp.2.1.symm hp.1
  · exact no fun ⟨r1, _, _⟩ => by omega
  · exact step 256 (by unfold Pow; omega) hp.2.1.symm hp.1
  · exact no fun ⟨r1, _, _⟩ => by omega
  · exact no fun ⟨_, _, r3⟩ => by unfold Pow at r3; omega
theorem right7_ok {O : Orac} {G : Type} {I : In G} (oo : OOK Tryz.prog O I) : OOK Tryz.prog (O.withCallF fR7 (sumK Tryz.prog tR7 shR7)) I := withCallF_ok oo (sum_okC pr noOrac_ok runR7 shR7_ok oo)
def okY : SB := .and (.not (.lt manyY (.lit (-1)))) (.not (.lt sizeY manyY))
def shQ7 : List CLeaf := [⟨false, .tup [.nilSl, .bool (.lit false)], [(okY, false)], tQ7.hp⟩,
  ⟨false, .tup [.sl (nQ7 + 1) (.lit 0) (.len listY) (.var (nQ7 + 1)), .bool (.lit true)], [(okY, true)], tQ7.hp ++ [(nQ7 + 1, .row .u64 listY (.var (nQ7 + 1)) 41)]⟩]
theorem shQ7_ok : ∀ c ∈ ouQ7, ∀ ν : Env Gh, ν.I = inM → pcDen ν c.pc → ∃ c' ∈ shQ7, c'.bad = c.bad ∧ (∀ ρ, c'.v.den ν ρ = c.v.den ν ρ) ∧ c'.hp.Sublist c.hp ∧ pcDen ν c'.pc := by
  intro c hc ν hI hp
  have ok : ∀ b : Bool, okY.den ν = b ↔ ((-1 ≤ manyW (ν.l 0) ∧ manyW (ν.l 0) ≤ ((ν.l 0).length : Int) - 2) ↔ b = true) := fun b => by
    simp only [okY, manyY, sizeY, SB.den]
    simp only [SI.den, SL.den]
    exact dec_and7
  simp only [ouQ7, List.mem_cons, List.not_mem_nil, or_false] at hc
  rcases hc with rfl | rfl | rfl | rfl | rfl | rfl
  all_goals
    simp only [pcDen_cons_iff, SB.den, decide_eq_true_eq, decide_eq_false_iff_not, beq_iff_eq, beq_eq_false_iff_ne] at hp
    simp only [SI.den, SL.den] at hp
  · omega
  · omega
  · have h1 : manyW (ν.l 0) < -1 := hp.1
    exact ⟨_, List.mem_cons_self .., rfl, fun _ => rfl, List.Sublist.refl _, pcDen_one ((ok false).2 (by simp; omega))⟩
  · have h1 : IntKind.i64.wrap (((ν.l 0).length : Int) - 2) < manyW (ν.l 0) := hp.1
    rw [wrapS _ (by omega) (by omega)] at h1
    exact ⟨_, List.mem_cons_self .., rfl, fun _ => rfl, List.Sublist.refl _, pcDen_one ((ok false).2 (by simp; omega))⟩
  · have h1 : ¬ IntKind.i64.wrap (((ν.l 0).length : Int) - 2) < manyW (ν.l 0) := hp.1
    have h2 : ¬ manyW (ν.l 0) < -1 := hp.2.1
    rw [wrapS _ (by omega) (by omega)] at h1
    exact ⟨_, List.mem_of_getElem? (show shQ7[1]? = some _ from rfl), rfl, fun _ => rfl, List.Sublist.refl _, pcDen_one ((ok true).2 (by simp; omega))⟩
  · omega
theorem ref7_ok {O : Orac} (oo : OOK Tryz.prog O inM) : OOK Tryz.prog (O.withCallF fQ7 (sumK Tryz.prog tQ7 shQ7)) inM := withCallF_ok oo (sum_okC pr oQ7_ok runQ7 shQ7_ok oo)
end Go.Proofs.YtiofchhmdkhfoaaGreat
end
