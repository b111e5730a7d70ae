/- coachyardref08.All: its state, the loop's head. -/
import Derived.Test.YtiofchhmdkhfoaaGreatSyXG
import Derived.Test.YtiofchhmdkhfoaaGreatLwXA
import Derived.Test.YtiofchhmdkhfoaaGreatLwXB
import Derived.Test.YtiofchhmdkhfoaaGreatLwRgAll
set_option linter.unusedVariables false
set_option linter.unusedSimpArgs false

section
namespace Go.Proofs.YtiofchhmdkhfoaaGreat
open Go Go.Sy Go.RowKit

def fLo : Nat := 39
def tLo : Tmpl := ⟨[.int .u64 (.var 0)], [], []⟩
def shLo : List CLeaf := [⟨false, .int .u32 (.wrap .u32 (.var 0)), [], []⟩]
def fAh : Nat := 40
def tAh : Tmpl := ⟨[.int .u32 (.var 0), .int .u32 (.var 1)], [(.lt (.var 0) (.lit 0), false), (.lt (.var 0) (.lit 4294967296), true), (.lt (.var 1) (.lit 0), false), (.lt (.var 1) (.lit 4294967296), true)], []⟩
def shAh : List CLeaf := [⟨false, .int .i64 (.wrap .i64 (.wrap .i32 (.wrap .u32 (.sub (.var 0) (.var 1))))), [], []⟩]
def oB8 (P : Program) : Orac := (noOrac.withCallF fLo (sumK P tLo shLo)).withCallF fAh (sumK P tAh shAh)
def fQ8 : Nat := 21
/-- the words of a ring: its cells alone; how many, and which. -/
def tQ8 : Tmpl := ⟨[.sl 0 (.var 0) (.len (.var 0)) (.var 1)], [(.lt (.len (.var 0)) (.lit 4), false), (.lt (.lit 300) (.len (.var 0)), false), (powB (.sub (.len (.var 0)) (.lit 2)), true), (.lt (.var 0) (.lit 0), false)], [(0, .view .u64 (.var 0) (.var 0))]⟩
def sQ8n : Nat := 8
def nQ8 : Nat := nmAt sQ8n
def eQ8 (P : Program) : Leaf := capN 0 (capAll P (oB8 P) fQ8 sQ8n tQ8.args tQ8.pc tQ8.hp)
def topV : SI := .nth (.var 0) (.lit 0)
def manyV8 : SI := .wrap .i64 (.wrap .i32 (.wrap .u32 (.sub (.wrap .u32 (.nth (.var 0) (.lit 1))) (.wrap .u32 (.nth (.var 0) (.lit 0))))))
def sizeV : SI := .sub (.len (.var 0)) (.lit 2)
def listV : SL := .gl 0 (.app 42 (.var 0) (.var 0) (.lit 0) sizeV topV manyV8 (.var 0)) (.lit 0) (.lit 0)
def hQ8 (P : Program) : Leaf := hdFrom 9 (hdI nQ8 8 0 (hdR P nQ8 7 1 (eQ8 P)))
def pQ8 (P : Program) : PC := (.lt (.var (nQ8 + 0)) (.lit 0), false) :: (.lt (.lit 300) (.var (nQ8 + 0)), false) :: (.lt (.len (.var (nQ8 + 1))) (.lit 1000), true) :: (eQ8 P).pc
def xQ8 (P : Program) : Leaf := { hQ8 P with fr := ((hQ8 P).fr.set 7 (.sl (nQ8 + 1) (.lit 0) (.len listV) (.var (nQ8 + 1)))).set 8 .dead, hp := hset (nQ8 + 1) (.row .u64 listV (.var (nQ8 + 1)) 41) (hQ8 P).hp }
def gQ8 (P : Program) : List Tgt := [⟨.exit 0, (xQ8 P).fr, (xQ8 P).hp, []⟩]
def bQ8 (P : Program) : PC := (eQ8 P).pc.map fun x => (x.1, !x.2)
def sQ8 (P : Program) : Option (List SumT) := (codeX P (oB8 P) LO7 SZ7 fQ8 6000 0 (loopAt P fQ8 sQ8n) (hQ8 P).fr (pQ8 P) (hQ8 P).hp).bind (sumsT P nQ8 LO7 SZ7 (⟨.normal, (hQ8 P).fr, (hQ8 P).hp, pQ8 P⟩ :: gQ8 P))
def oQ8 (P : Program) : Orac := (oB8 P).withLoop fQ8 sQ8n nQ8 (eQ8 P).fr (eQ8 P).hp (mkM nQ8 (gQ8 P) (bQ8 P))
end Go.Proofs.YtiofchhmdkhfoaaGreat
end

section
namespace Go.Proofs.YtiofchhmdkhfoaaGreat
open Go Go.Sy Go.RowKit

def pcQ8 : PC := [((.lt (.wrap .i64 (.sub (.len (.var 0)) (.lit 2))) (.wrap .i64 (.wrap .i32 (.wrap .u32 (.sub (.wrap .u32 (.nth (.var 0) (.lit 1))) (.wrap .u32 (.nth (.var 0) (.lit 0)))))))), false), ((.lt (.wrap .i64 (.wrap .i32 (.wrap .u32 (.sub (.wrap .u32 (.nth (.var 0) (.lit 1))) (.wrap .u32 (.nth (.var 0) (.lit 0))))))) (.lit 0)), false), ((.lt (.lit 1) (.len (.var 0))), true), ((.lt (.lit 0) (.len (.var 0))), true), ((.lt (.len (.var 0)) (.lit 4)), false), ((.lt (.lit 300) (.len (.var 0))), false), ((.or (.eq (.sub (.len (.var 0)) (.lit 2)) (.lit 2)) (.or (.eq (.sub (.len (.var 0)) (.lit 2)) (.lit 4)) (.or (.eq (.sub (.len (.var 0)) (.lit 2)) (.lit 8)) (.or (.eq (.sub (.len (.var 0)) (.lit 2)) (.lit 16)) (.or (.eq (.sub (.len (.var 0)) (.lit 2)) (.lit 32)) (.or (.eq (.sub (.len (.var 0)) (.lit 2)) (.lit 64)) (.or (.eq (.sub (.len (.var 0)) (.lit 2)) (.lit 128)) (.eq (.sub (.len (.var 0)) (.lit 2)) (.lit 256))))))))), true), ((.lt (.var 0) (.lit 0)), false)]
def startQ8 : Mt := ⟨[((nQ8 + 1), 4149515568903636733061337111804610478498375845587938427318155972260910049214381891374059942059620554639263839216549599432579734144810398815666423589909332292569777979663405895647232)], [(0, (.lit 0)), (1, (.lit 0))], [(1, .nil)], [], [((.lit 0), (.len (.var (nQ8 + 1))))], [], [], []⟩
def sumsQ8 : List SumT := [
  ⟨.bad, 0, ⟨[], [], [], [], [], [], [], []⟩, [((.lt (.wrap .i64 (.add (.lit 2) (.wrap .i64 (.tmod (.wrap .u32 (.add (.wrap .u32 (.nth (.var 0) (.lit 0))) (.wrap .u32 (.var (nQ8 + 0))))) (.wrap .u32 (.wrap .i64 (.sub (.len (.var 0)) (.lit 2)))))))) (.lit 0)), true), ((.eq (.wrap .u32 (.wrap .i64 (.sub (.len (.var 0)) (.lit 2)))) (.lit 0)), false), ((.lt (.var (nQ8 + 0)) (.wrap .i64 (.wrap .i32 (.wrap .u32 (.sub (.wrap .u32 (.nth (.var 0) (.lit 1))) (.wrap .u32 (.nth (.var 0) (.lit 0)))))))), true), ((.lt (.var (nQ8 + 0)) (.lit 0)), false), ((.lt (.lit 300) (.var (nQ8 + 0))), false), ((.lt (.len (.var (nQ8 + 1))) (.lit 1000)), true), ((.lt (.wrap .i64 (.sub (.len (.var 0)) (.lit 2))) (.wrap .i64 (.wrap .i32 (.wrap .u32 (.sub (.wrap .u32 (.nth (.var 0) (.lit 1))) (.wrap .u32 (.nth (.var 0) (.lit 0)))))))), false), ((.lt (.wrap .i64 (.wrap .i32 (.wrap .u32 (.sub (.wrap .u32 (.nth (.var 0) (.lit 1))) (.wrap .u32 (.nth (.var 0) (.lit 0))))))) (.lit 0)), false), ((.lt (.lit 1) (.len (.var 0))), true), ((.lt (.lit 0) (.len (.var 0))), true), ((.lt (.len (.var 0)) (.lit 4)), false), ((.lt (.lit 300) (.len (.var 0))), false), ((.or (.eq (.sub (.len (.var 0)) (.lit 2)) (.lit 2)) (.or (.eq (.sub (.len (.var 0)) (.lit 2)) (.lit 4)) (.or (.eq (.sub (.len (.var 0)) (.lit 2)) (.lit 8)) (.or (.eq (.sub (.len (.var 0)) (.lit 2)) (.lit 16)) (.or (.eq (.sub (.len (.var 0)) (.lit 2)) (.lit 32)) (.or (.eq (.sub (.len (.var 0)) (.lit 2)) (.lit 64)) (.or (.eq (.sub (.len (.var 0)) (.lit 2)) (.lit 128)) (.eq (.sub (.len (.var 0)) (.lit 2)) (.lit 256))))))))), true), ((.lt (.var 0) (.lit 0)), false)]⟩,
  ⟨.bad, 0, ⟨[], [], [], [], [], [], [], []⟩, [((.lt (.wrap .i64 (.add (.lit 2) (.wrap .i64 (.tmod (.wrap .u32 (.add (.wrap .u32 (.nth (.var 0) (.lit 0))) (.wrap .u32 (.var (nQ8 + 0))))) (.wrap .u32 (.wrap .i64 (.sub (.len (.var 0)) (.lit 2)))))))) (.len (.var 0))), false), ((.lt (.wrap .i64 (.add (.lit 2) (.wrap .i64 (.tmod (.wrap .u32 (.add (.wrap .u32 (.nth (.var 0) (.lit 0))) (.wrap .u32 (.var (nQ8 + 0))))) (.wrap .u32 (.wrap .i64 (.sub (.len (.var 0)) (.lit 2)))))))) (.lit 0)), false), ((.eq (.wrap .u32 (.wrap .i64 (.sub (.len (.var 0)) (.lit 2)))) (.lit 0)), false), ((.lt (.var (nQ8 + 0)) (.wrap .i64 (.wrap .i32 (.wrap .u32 (.sub (.wrap .u32 (.nth (.var 0) (.lit 1))) (.wrap .u32 (.nth (.var 0) (.lit 0)))))))), true), ((.lt (.var (nQ8 + 0)) (.lit 0)), false), ((.lt (.lit 300) (.var (nQ8 + 0))), false), ((.lt (.len (.var (nQ8 + 1))) (.lit 1000)), true), ((.lt (.wrap .i64 (.sub (.len (.var 0)) (.lit 2))) (.wrap .i64 (.wrap .i32 (.wrap .u32 (.sub (.wrap .u32 (.nth (.var 0) (.lit 1))) (.wrap .u32 (.nth (.var 0) (.lit 0)))))))), false), ((.lt (.wrap .i64 (.wrap .i32 (.wrap .u32 (.sub (.wrap .u32 (.nth (.var 0) (.lit 1))) (.wrap .u32 (.nth (.var 0) (.lit 0))))))) (.lit 0)), false), ((.lt (.lit 1) (.len (.var 0))), true), ((.lt (.lit 0) (.len (.var 0))), true), ((.lt (.len (.var 0)) (.lit 4)), false), ((.lt (.lit 300) (.len (.var 0))), false), ((.or (.eq (.sub (.len (.var 0)) (.lit 2)) (.lit 2)) (.or (.eq (.sub (.len (.var 0)) (.lit 2)) (.lit 4)) (.or (.eq (.sub (.len (.var 0)) (.lit 2)) (.lit 8)) (.or (.eq (.sub (.len (.var 0)) (.lit 2)) (.lit 16)) (.or (.eq (.sub (.len (.var 0)) (.lit 2)) (.lit 32)) (.or (.eq (.sub (.len (.var 0)) (.lit 2)) (.lit 64)) (.or (.eq (.sub (.len (.var 0)) (.lit 2)) (.lit 128)) (.eq (.sub (.len (.var 0)) (.lit 2)) (.lit 256))))))))), true), ((.lt (.var 0) (.lit 0)), false)]⟩,
  ⟨.bad, 0, ⟨[], [], [], [], [], [], [], []⟩, [((.lt (.add (.len (.var (nQ8 + 1))) (.lit 1)) (.lit 1099511627776)), false), ((.lt (.wrap .i64 (.add (.lit 2) (.wrap .i64 (.tmod (.wrap .u32 (.add (.wrap .u32 (.nth (.var 0) (.lit 0))) (.wrap .u32 (.var (nQ8 + 0))))) (.wrap .u32 (.wrap .i64 (.sub (.len (.var 0)) (.lit 2)))))))) (.len (.var 0))), true), ((.lt (.wrap .i64 (.add (.lit 2) (.wrap .i64 (.tmod (.wrap .u32 (.add (.wrap .u32 (.nth (.var 0) (.lit 0))) (.wrap .u32 (.var (nQ8 + 0))))) (.wrap .u32 (.wrap .i64 (.sub (.len (.var 0)) (.lit 2)))))))) (.lit 0)), false), ((.eq (.wrap .u32 (.wrap .i64 (.sub (.len (.var 0)) (.lit 2)))) (.lit 0)), false), ((.lt (.var (nQ8 + 0)) (.wrap .i64 (.wrap .i32 (.wrap .u32 (.sub (.wrap .u32 (.nth (.var 0) (.lit 1))) (.wrap .u32 (.nth (.var 0) (.lit 0)))))))), true), ((.lt (.var (nQ8 + 0)) (.lit 0)), false), ((.lt (.lit 300) (.var (nQ8 + 0))), false), ((.lt (.len (.var (nQ8 + 1))) (.lit 1000)), true), ((.lt (.wrap .i64 (.sub (.len (.var 0)) (.lit 2))) (.wrap .i64 (.wrap .i32 (.wrap .u32 (.sub (.wrap .u32 (.nth (.var 0) (.lit 1))) (.wrap .u32 (.nth (.var 0) (.lit 0)))))))), false), ((.lt (.wrap .i64 (.wrap .i32 (.wrap .u32 (.sub (.wrap .u32 (.nth (.var 0) (.lit 1))) (.wrap .u32 (.nth (.var 0) (.lit 0))))))) (.lit 0)), false), ((.lt (.lit 1) (.len (.var 0))), true), ((.lt (.lit 0) (.len (.var 0))), true), ((.lt (.len (.var 0)) (.lit 4)), false), ((.lt (.lit 300) (.len (.var 0))), false), ((.or (.eq (.sub (.len (.var 0)) (.lit 2)) (.lit 2)) (.or (.eq (.sub (.len (.var 0)) (.lit 2)) (.lit 4)) (.or (.eq (.sub (.len (.var 0)) (.lit 2)) (.lit 8)) (.or (.eq (.sub (.len (.var 0)) (.lit 2)) (.lit 16)) (.or (.eq (.sub (.len (.var 0)) (.lit 2)) (.lit 32)) (.or (.eq (.sub (.len (.var 0)) (.lit 2)) (.lit 64)) (.or (.eq (.sub (.len (.var 0)) (.lit 2)) (.lit 128)) (.eq (.sub (.len (.var 0)) (.lit 2)) (.lit 256))))))))), true), ((.lt (.var 0) (.lit 0)), false)]⟩,
  ⟨.normal, 0, ⟨[((nQ8 + 1), 5260135901548373507240989925603540962749043303666925224062476113892878561465211144468954402772549797534285244187561993672400098241469244413080740192592356322394862241131707890229033879866250565093235307600412672)], [(0, (.wrap .i64 (.add (.var (nQ8 + 0)) (.lit 1)))), (1, (.var 5260135901548373507240989925603540962749043303666925224062476113892878561465211144468954402772549797534285244187561993672400098241469244413080740192592356322394862241131707890229033879866250565093235307600412672))], [(1, (.app (.var (nQ8 + 1)) (.cons (.nth (.var 0) (.wrap .i64 (.add (.lit 2) (.wrap .i64 (.tmod (.wrap .u32 (.add (.wrap .u32 (.nth (.var 0) (.lit 0))) (.wrap .u32 (.var (nQ8 + 0))))) (.wrap .u32 (.wrap .i64 (.sub (.len (.var 0)) (.lit 2))))))))) .nil)))], [], [((.add (.len (.var (nQ8 + 1))) (.lit 1)), (.len (.var (nQ8 + 1))))], [], [], []⟩, [((.lt (.add (.len (.var (nQ8 + 1))) (.lit 1)) (.lit 1099511627776)), true), ((.lt (.wrap .i64 (.add (.lit 2) (.wrap .i64 (.tmod (.wrap .u32 (.add (.wrap .u32 (.nth (.var 0) (.lit 0))) (.wrap .u32 (.var (nQ8 + 0))))) (.wrap .u32 (.wrap .i64 (.sub (.len (.var 0)) (.lit 2)))))))) (.len (.var 0))), true), ((.lt (.wrap .i64 (.add (.lit 2) (.wrap .i64 (.tmod (.wrap .u32 (.add (.wrap .u32 (.nth (.var 0) (.lit 0))) (.wrap .u32 (.var (nQ8 + 0))))) (.wrap .u32 (.wrap .i64 (.sub (.len (.var 0)) (.lit 2)))))))) (.lit 0)), false), ((.eq (.wrap .u32 (.wrap .i64 (.sub (.len (.var 0)) (.lit 2)))) (.lit 0)), false), ((.lt (.var (nQ8 + 0)) (.wrap .i64 (.wrap .i32 (.wrap .u32 (.sub (.wrap .u32 (.nth (.var 0) (.lit 1))) (.wrap .u32 (.nth (.var 0) (.lit 0)))))))), true), ((.lt (.var (nQ8 + 0)) (.lit 0)), false), ((.lt (.lit 300) (.var (nQ8 + 0))), false), ((.lt (.len (.var (nQ8 + 1))) (.lit 1000)), true), ((.lt (.wrap .i64 (.sub (.len (.var 0)) (.lit 2))) (.wrap .i64 (.wrap .i32 (.wrap .u32 (.sub (.wrap .u32 (.nth (.var 0) (.lit 1))) (.wrap .u32 (.nth (.var 0) (.lit 0)))))))), false), ((.lt (.wrap .i64 (.wrap .i32 (.wrap .u32 (.sub (.wrap .u32 (.nth (.var 0) (.lit 1))) (.wrap .u32 (.nth (.var 0) (.lit 0))))))) (.lit 0)), false), ((.lt (.lit 1) (.len (.var 0))), true), ((.lt (.lit 0) (.len (.var 0))), true), ((.lt (.len (.var 0)) (.lit 4)), false), ((.lt (.lit 300) (.len (.var 0))), false), ((.or (.eq (.sub (.len (.var 0)) (.lit 2)) (.lit 2)) (.or (.eq (.sub (.len (.var 0)) (.lit 2)) (.lit 4)) (.or (.eq (.sub (.len (.var 0)) (.lit 2)) (.lit 8)) (.or (.eq (.sub (.len (.var 0)) (.lit 2)) (.lit 16)) (.or (.eq (.sub (.len (.var 0)) (.lit 2)) (.lit 32)) (.or (.eq (.sub (.len (.var 0)) (.lit 2)) (.lit 64)) (.or (.eq (.sub (.len (.var 0)) (.lit 2)) (.lit 128)) (.eq (.sub (.len (.var 0)) (.lit 2)) (.lit 256))))))))), true), ((.lt (.var 0) (.lit 0)), false)]⟩,
  ⟨.bad, 0, ⟨[], [], [], [], [], [], [], []⟩, [((.eq (.wrap .u32 (.wrap .i64 (.sub (.len (.var 0)) (.lit 2)))) (.lit 0)), true), ((.lt (.var (nQ8 + 0)) (.wrap .i64 (.wrap .i32 (.wrap .u32 (.sub (.wrap .u32 (.nth (.var 0) (.lit 1))) (.wrap .u32 (.nth (.var 0) (.lit 0)))))))), true), ((.lt (.var (nQ8 + 0)) (.lit 0)), false), ((.lt (.lit 300) (.var (nQ8 + 0))), false), ((.lt (.len (.var (nQ8 + 1))) (.lit 1000)), true), ((.lt (.wrap .i64 (.sub (.len (.var 0)) (.lit 2))) (.wrap .i64 (.wrap .i32 (.wrap .u32 (.sub (.wrap .u32 (.nth (.var 0) (.lit 1))) (.wrap .u32 (.nth (.var 0) (.lit 0)))))))), false), ((.lt (.wrap .i64 (.wrap .i32 (.wrap .u32 (.sub (.wrap .u32 (.nth (.var 0) (.lit 1))) (.wrap .u32 (.nth (.var 0) (.lit 0))))))) (.lit 0)), false), ((.lt (.lit 1) (.len (.var 0))), true), ((.lt (.lit 0) (.len (.var 0))), true), ((.lt (.len (.var 0)) (.lit 4)), false), ((.lt (.lit 300) (.len (.var 0))), false), ((.or (.eq (.sub (.len (.var 0)) (.lit 2)) (.lit 2)) (.or (.eq (.sub (.len (.var 0)) (.lit 2)) (.lit 4)) (.or (.eq (.sub (.len (.var 0)) (.lit 2)) (.lit 8)) (.or (.eq (.sub (.len (.var 0)) (.lit 2)) (.lit 16)) (.or (.eq (.sub (.len (.var 0)) (.lit 2)) (.lit 32)) (.or (.eq (.sub (.len (.var 0)) (.lit 2)) (.lit 64)) (.or (.eq (.sub (.len (.var 0)) (.lit 2)) (.lit 128)) (.eq (.sub (.len (.var 0)) (.lit 2)) (.lit 256))))))))), true), ((.lt (.var 0) (.lit 0)), false)]⟩,
  ⟨.exit 0, 0, ⟨[((nQ8 + 1), (nQ8 + 1))], [(1, (.var (nQ8 + 1)))], [], [], [((.len (.var (nQ8 + 1))), (.len (.gl 0 (.app 42 (.var 0) (.var 0) (.lit 0) (.sub (.len (.var 0)) (.lit 2)) (.nth (.var 0) (.lit 0)) (.wrap .i64 (.wrap .i32 (.wrap .u32 (.sub (.wrap .u32 (.nth (.var 0) (.lit 1))) (.wrap .u32 (.nth (.var 0) (.lit 0))))))) (.var 0)) (.lit 0) (.lit 0))))], [((.var (nQ8 + 1)), (.gl 0 (.app 42 (.var 0) (.var 0) (.lit 0) (.sub (.len (.var 0)) (.lit 2)) (.nth (.var 0) (.lit 0)) (.wrap .i64 (.wrap .i32 (.wrap .u32 (.sub (.wrap .u32 (.nth (.var 0) (.lit 1))) (.wrap .u32 (.nth (.var 0) (.lit 0))))))) (.var 0)) (.lit 0) (.lit 0)))], [], []⟩, [((.lt (.var (nQ8 + 0)) (.wrap .i64 (.wrap .i32 (.wrap .u32 (.sub (.wrap .u32 (.nth (.var 0) (.lit 1))) (.wrap .u32 (.nth (.var 0) (.lit 0)))))))), false), ((.lt (.var (nQ8 + 0)) (.lit 0)), false), ((.lt (.lit 300) (.var (nQ8 + 0))), false), ((.lt (.len (.var (nQ8 + 1))) (.lit 1000)), true), ((.lt (.wrap .i64 (.sub (.len (.var 0)) (.lit 2))) (.wrap .i64 (.wrap .i32 (.wrap .u32 (.sub (.wrap .u32 (.nth (.var 0) (.lit 1))) (.wrap .u32 (.nth (.var 0) (.lit 0)))))))), false), ((.lt (.wrap .i64 (.wrap .i32 (.wrap .u32 (.sub (.wrap .u32 (.nth (.var 0) (.lit 1))) (.wrap .u32 (.nth (.var 0) (.lit 0))))))) (.lit 0)), false), ((.lt (.lit 1) (.len (.var 0))), true), ((.lt (.lit 0) (.len (.var 0))), true), ((.lt (.len (.var 0)) (.lit 4)), false), ((.lt (.lit 300) (.len (.var 0))), false), ((.or (.eq (.sub (.len (.var 0)) (.lit 2)) (.lit 2)) (.or (.eq (.sub (.len (.var 0)) (.lit 2)) (.lit 4)) (.or (.eq (.sub (.len (.var 0)) (.lit 2)) (.lit 8)) (.or (.eq (.sub (.len (.var 0)) (.lit 2)) (.lit 16)) (.or (.eq (.sub (.len (.var 0)) (.lit 2)) (.lit 32)) (.or (.eq (.sub (.len (.var 0)) (.lit 2)) (.lit 64)) (.or (.eq (.sub (.len (.var 0)) (.lit 2)) (.lit 128)) (.eq (.sub (.len (.var 0)) (.lit 2)) (.lit 256))))))))), true), ((.lt (.var 0) (.lit 0)), false)]⟩]
def ouQ8 : List CLeaf := [
  ⟨true, (.tup []), [((.lt (.lit 0) (.len (.var 0))), false), ((.lt (.len (.var 0)) (.lit 4)), false), ((.lt (.lit 300) (.len (.var 0))), false), ((.or (.eq (.sub (.len (.var 0)) (.lit 2)) (.lit 2)) (.or (.eq (.sub (.len (.var 0)) (.lit 2)) (.lit 4)) (.or (.eq (.sub (.len (.var 0)) (.lit 2)) (.lit 8)) (.or (.eq (.sub (.len (.var 0)) (.lit 2)) (.lit 16)) (.or (.eq (.sub (.len (.var 0)) (.lit 2)) (.lit 32)) (.or (.eq (.sub (.len (.var 0)) (.lit 2)) (.lit 64)) (.or (.eq (.sub (.len (.var 0)) (.lit 2)) (.lit 128)) (.eq (.sub (.len (.var 0)) (.lit 2)) (.lit 256))))))))), true), ((.lt (.var 0) (.lit 0)), false)], []⟩,
  ⟨true, (.tup []), [((.lt (.lit 1) (.len (.var 0))), false), ((.lt (.lit 0) (.len (.var 0))), true), ((.lt (.len (.var 0)) (.lit 4)), false), ((.lt (.lit 300) (.len (.var 0))), false), ((.or (.eq (.sub (.len (.var 0)) (.lit 2)) (.lit 2)) (.or (.eq (.sub (.len (.var 0)) (.lit 2)) (.lit 4)) (.or (.eq (.sub (.len (.var 0)) (.lit 2)) (.lit 8)) (.or (.eq (.sub (.len (.var 0)) (.lit 2)) (.lit 16)) (.or (.eq (.sub (.len (.var 0)) (.lit 2)) (.lit 32)) (.or (.eq (.sub (.len (.var 0)) (.lit 2)) (.lit 64)) (.or (.eq (.sub (.len (.var 0)) (.lit 2)) (.lit 128)) (.eq (.sub (.len (.var 0)) (.lit 2)) (.lit 256))))))))), true), ((.lt (.var 0) (.lit 0)), false)], []⟩,
  ⟨false, (.tup [.nilSl, (.bool (.lit false))]), [((.lt (.wrap .i64 (.wrap .i32 (.wrap .u32 (.sub (.wrap .u32 (.nth (.var 0) (.lit 1))) (.wrap .u32 (.nth (.var 0) (.lit 0))))))) (.lit 0)), true), ((.lt (.lit 1) (.len (.var 0))), true), ((.lt (.lit 0) (.len (.var 0))), true), ((.lt (.len (.var 0)) (.lit 4)), false), ((.lt (.lit 300) (.len (.var 0))), false), ((.or (.eq (.sub (.len (.var 0)) (.lit 2)) (.lit 2)) (.or (.eq (.sub (.len (.var 0)) (.lit 2)) (.lit 4)) (.or (.eq (.sub (.len (.var 0)) (.lit 2)) (.lit 8)) (.or (.eq (.sub (.len (.var 0)) (.lit 2)) (.lit 16)) (.or (.eq (.sub (.len (.var 0)) (.lit 2)) (.lit 32)) (.or (.eq (.sub (.len (.var 0)) (.lit 2)) (.lit 64)) (.or (.eq (.sub (.len (.var 0)) (.lit 2)) (.lit 128)) (.eq (.sub (.len (.var 0)) (.lit 2)) (.lit 256))))))))), true), ((.lt (.var 0) (.lit 0)), false)], [(0, (.view .u64 (.var 0) (.var 0)))]⟩,
  ⟨false, (.tup [.nilSl, (.bool (.lit false))]), [((.lt (.wrap .i64 (.sub (.len (.var 0)) (.lit 2))) (.wrap .i64 (.wrap .i32 (.wrap .u32 (.sub (.wrap .u32 (.nth (.var 0) (.lit 1))) (.wrap .u32 (.nth (.var 0) (.lit 0)))))))), true), ((.lt (.wrap .i64 (.wrap .i32 (.wrap .u32 (.sub (.wrap .u32 (.nth (.var 0) (.lit 1))) (.wrap .u32 (.nth (.var 0) (.lit 0))))))) (.lit 0)), false), ((.lt (.lit 1) (.len (.var 0))), true), ((.lt (.lit 0) (.len (.var 0))), true), ((.lt (.len (.var 0)) (.lit 4)), false), ((.lt (.lit 300) (.len (.var 0))), false), ((.or (.eq (.sub (.len (.var 0)) (.lit 2)) (.lit 2)) (.or (.eq (.sub (.len (.var 0)) (.lit 2)) (.lit 4)) (.or (.eq (.sub (.len (.var 0)) (.lit 2)) (.lit 8)) (.or (.eq (.sub (.len (.var 0)) (.lit 2)) (.lit 16)) (.or (.eq (.sub (.len (.var 0)) (.lit 2)) (.lit 32)) (.or (.eq (.sub (.len (.var 0)) (.lit 2)) (.lit 64)) (.or (.eq (.sub (.len (.var 0)) (.lit 2)) (.lit 128)) (.eq (.sub (.len (.var 0)) (.lit 2)) (.lit 256))))))))), true), ((.lt (.var 0) (.lit 0)), false)], [(0, (.view .u64 (.var 0) (.var 0)))]⟩,
  ⟨false, (.tup [(.sl (nQ8 + 1) (.lit 0) (.len (.gl 0 (.app 42 (.var 0) (.var 0) (.lit 0) (.sub (.len (.var 0)) (.lit 2)) (.nth (.var 0) (.lit 0)) (.wrap .i64 (.wrap .i32 (.wrap .u32 (.sub (.wrap .u32 (.nth (.var 0) (.lit 1))) (.wrap .u32 (.nth (.var 0) (.lit 0))))))) (.var 0)) (.lit 0) (.lit 0))) (.var (nQ8 + 1))), (.bool (.lit true))]), [((.lt (.wrap .i64 (.sub (.len (.var 0)) (.lit 2))) (.wrap .i64 (.wrap .i32 (.wrap .u32 (.sub (.wrap .u32 (.nth (.var 0) (.lit 1))) (.wrap .u32 (.nth (.var 0) (.lit 0)))))))), false), ((.lt (.wrap .i64 (.wrap .i32 (.wrap .u32 (.sub (.wrap .u32 (.nth (.var 0) (.lit 1))) (.wrap .u32 (.nth (.var 0) (.lit 0))))))) (.lit 0)), false), ((.lt (.lit 1) (.len (.var 0))), true), ((.lt (.lit 0) (.len (.var 0))), true), ((.lt (.len (.var 0)) (.lit 4)), false), ((.lt (.lit 300) (.len (.var 0))), false), ((.or (.eq (.sub (.len (.var 0)) (.lit 2)) (.lit 2)) (.or (.eq (.sub (.len (.var 0)) (.lit 2)) (.lit 4)) (.or (.eq (.sub (.len (.var 0)) (.lit 2)) (.lit 8)) (.or (.eq (.sub (.len (.var 0)) (.lit 2)) (.lit 16)) (.or (.eq (.sub (.len (.var 0)) (.lit 2)) (.lit 32)) (.or (.eq (.sub (.len (.var 0)) (.lit 2)) (.lit 64)) (.or (.eq (.sub (.len (.var 0)) (.lit 2)) (.lit 128)) (.eq (.sub (.len (.var 0)) (.lit 2)) (.lit 256))))))))), true), ((.lt (.var 0) (.lit 0)), false)], [(0, (.view .u64 (.var 0) (.var 0))), ((nQ8 + 1), (.row .u64 (.gl 0 (.app 42 (.var 0) (.var 0) (.lit 0) (.sub (.len (.var 0)) (.lit 2)) (.nth (.var 0) (.lit 0)) (.wrap .i64 (.wrap .i32 (.wrap .u32 (.sub (.wrap .u32 (.nth (.var 0) (.lit 1))) (.wrap .u32 (.nth (.var 0) (.lit 0))))))) (.var 0)) (.lit 0) (.lit 0)) (.var (nQ8 + 1)) 41))]⟩,
  ⟨true, (.tup []), [((.lt (.wrap .u32 (.nth (.var 0) (.lit 1))) (.lit 0)), true), ((.lt (.lit 1) (.len (.var 0))), true), ((.lt (.lit 0) (.len (.var 0))), true), ((.lt (.len (.var 0)) (.lit 4)), false), ((.lt (.lit 300) (.len (.var 0))), false), ((.or (.eq (.sub (.len (.var 0)) (.lit 2)) (.lit 2)) (.or (.eq (.sub (.len (.var 0)) (.lit 2)) (.lit 4)) (.or (.eq (.sub (.len (.var 0)) (.lit 2)) (.lit 8)) (.or (.eq (.sub (.len (.var 0)) (.lit 2)) (.lit 16)) (.or (.eq (.sub (.len (.var 0)) (.lit 2)) (.lit 32)) (.or (.eq (.sub (.len (.var 0)) (.lit 2)) (.lit 64)) (.or (.eq (.sub (.len (.var 0)) (.lit 2)) (.lit 128)) (.eq (.sub (.len (.var 0)) (.lit 2)) (.lit 256))))))))), true), ((.lt (.var 0) (.lit 0)), false)], []⟩,
  ⟨true, (.tup []), [((.lt (.wrap .u32 (.nth (.var 0) (.lit 1))) (.lit 4294967296)), false), ((.lt (.lit 1) (.len (.var 0))), true), ((.lt (.lit 0) (.len (.var 0))), true), ((.lt (.len (.var 0)) (.lit 4)), false), ((.lt (.lit 300) (.len (.var 0))), false), ((.or (.eq (.sub (.len (.var 0)) (.lit 2)) (.lit 2)) (.or (.eq (.sub (.len (.var 0)) (.lit 2)) (.lit 4)) (.or (.eq (.sub (.len (.var 0)) (.lit 2)) (.lit 8)) (.or (.eq (.sub (.len (.var 0)) (.lit 2)) (.lit 16)) (.or (.eq (.sub (.len (.var 0)) (.lit 2)) (.lit 32)) (.or (.eq (.sub (.len (.var 0)) (.lit 2)) (.lit 64)) (.or (.eq (.sub (.len (.var 0)) (.lit 2)) (.lit 128)) (.eq (.sub (.len (.var 0)) (.lit 2)) (.lit 256))))))))), true), ((.lt (.var 0) (.lit 0)), false)], []⟩,
  ⟨true, (.tup []), [((.lt (.wrap .u32 (.nth (.var 0) (.lit 0))) (.lit 0)), true), ((.lt (.lit 1) (.len (.var 0))), true), ((.lt (.lit 0) (.len (.var 0))), true), ((.lt (.len (.var 0)) (.lit 4)), false), ((.lt (.lit 300) (.len (.var 0))), false), ((.or (.eq (.sub (.len (.var 0)) (.lit 2)) (.lit 2)) (.or (.eq (.sub (.len (.var 0)) (.lit 2)) (.lit 4)) (.or (.eq (.sub (.len (.var 0)) (.lit 2)) (.lit 8)) (.or (.eq (.sub (.len (.var 0)) (.lit 2)) (.lit 16)) (.or (.eq (.sub (.len (.var 0)) (.lit 2)) (.lit 32)) (.or (.eq (.sub (.len (.var 0)) (.lit 2)) (.lit 64)) (.or (.eq (.sub (.len (.var 0)) (.lit 2)) (.lit 128)) (.eq (.sub (.len (.var 0)) (.lit 2)) (.lit 256))))))))), true), ((.lt (.var 0) (.lit 0)), false)], []⟩,
  ⟨true, (.tup []), [((.lt (.wrap .u32 (.nth (.var 0) (.lit 0))) (.lit 4294967296)), false), ((.lt (.lit 1) (.len (.var 0))), true), ((.lt (.lit 0) (.len (.var 0))), true), ((.lt (.len (.var 0)) (.lit 4)), false), ((.lt (.lit 300) (.len (.var 0))), false), ((.or (.eq (.sub (.len (.var 0)) (.lit 2)) (.lit 2)) (.or (.eq (.sub (.len (.var 0)) (.lit 2)) (.lit 4)) (.or (.eq (.sub (.len (.var 0)) (.lit 2)) (.lit 8)) (.or (.eq (.sub (.len (.var 0)) (.lit 2)) (.lit 16)) (.or (.eq (.sub (.len (.var 0)) (.lit 2)) (.lit 32)) (.or (.eq (.sub (.len (.var 0)) (.lit 2)) (.lit 64)) (.or (.eq (.sub (.len (.var 0)) (.lit 2)) (.lit 128)) (.eq (.sub (.len (.var 0)) (.lit 2)) (.lit 256))))))))), true), ((.lt (.var 0) (.lit 0)), false)], []⟩]
def ouLo : List CLeaf := [
  ⟨false, (.int .u32 (.wrap .u32 (.tmod (.var 0) (.lit 4294967296)))), [], []⟩]
def ouAh : List CLeaf := [
  ⟨false, (.int .i64 (.wrap .i64 (.sub (.tmod (.wrap .i64 (.add (.wrap .i64 (.sub (.wrap .i64 (.var 0)) (.wrap .i64 (.var 1)))) (.lit 4294967296))) (.lit 4294967296)) (.lit 4294967296)))), [((.lt (.tmod (.wrap .i64 (.add (.wrap .i64 (.sub (.wrap .i64 (.var 0)) (.wrap .i64 (.var 1)))) (.lit 4294967296))) (.lit 4294967296)) (.lit 2147483648)), false), ((.lt (.var 0) (.lit 0)), false), ((.lt (.var 0) (.lit 4294967296)), true), ((.lt (.var 1) (.lit 0)), false), ((.lt (.var 1) (.lit 4294967296)), true)], []⟩,
  ⟨false, (.int .i64 (.tmod (.wrap .i64 (.add (.wrap .i64 (.sub (.wrap .i64 (.var 0)) (.wrap .i64 (.var 1)))) (.lit 4294967296))) (.lit 4294967296))), [((.lt (.tmod (.wrap .i64 (.add (.wrap .i64 (.sub (.wrap .i64 (.var 0)) (.wrap .i64 (.var 1)))) (.lit 4294967296))) (.lit 4294967296)) (.lit 2147483648)), true), ((.lt (.var 0) (.lit 0)), false), ((.lt (.var 0) (.lit 4294967296)), true), ((.lt (.var 1) (.lit 0)), false), ((.lt (.var 1) (.lit 4294967296)), true)], []⟩]
theorem runLo : runX Tryz.prog noOrac fLo tLo.args tLo.pc tLo.hp = some ouLo := by kernel_rfl
theorem runAh : runX Tryz.prog noOrac fAh tAh.args tAh.pc tAh.hp = some ouAh := by kernel_rfl
theorem tmodW (x : Int) : IntKind.u32.wrap (x.tmod 4294967296) = IntKind.u32.wrap x := by
  rw [wrapW, wrapW]
  have := Int.tmod_eq_emod (a := x) (b := 4294967296)
  rw [this]
  split <;> omega
theorem shLo_ok : ∀ c ∈ ouLo, ∀ ν : Env Gh, ν.I = inM → pcDen ν c.pc → ∃ c' ∈ shLo, c'.bad = c.bad ∧ (∀ ρ, c'.v.den ν ρ = c.v.den ν ρ) ∧ c'.hp.Sublist c.hp ∧ pcDen ν c'.pc := by
  intro c hc ν hI hp
  simp only [ouLo, List.mem_cons, List.not_mem_nil, or_false] at hc
  subst hc
  refine ⟨_, List.mem_cons_self .., rfl, fun _ => ?_, List.Sublist.refl _, pcDen_nil _⟩
  simp only [SV.den, SI.den, tmodW]
theorem wrapI32 (x : Int) : IntKind.i32.wrap x = (x + 2147483648) % 4294967296 - 2147483648 := by
  simp only [IntKind.wrap, IntKind.bits, IntKind.signed]
  simp
  split <;> omega
theorem shAh_ok : ∀ c ∈ ouAh, ∀ ν : Env Gh, ν.I = inM → pcDen ν c.pc → ∃ c' ∈ shAh, c'.bad = c.bad ∧ (∀ ρ, c'.v.den ν ρ = c.v.den ν ρ) ∧ c'.hp.Sublist c.hp ∧ pcDen ν c'.pc := by
  intro c hc ν hI hp
  simp only [ouAh, List.mem_cons, List.not_mem_nil, or_false] at hc
  rcases hc with rfl | rfl
  all_goals
    simp only [pcDen_cons_iff, SB.den, decide_eq_true_eq, decide_eq_false_iff_not] at hp
    simp only [SI.den] at hp
    obtain ⟨h1, h2, h3, h4, h5, -⟩ := hp
    rw [wrapS (ν.i 0) (by omega) (by omega), wrapS (ν.i 1) (by omega) (by omega), wrapS (ν.i 0 - ν.i 1) (by omega) (by omega), wrapS (ν.i 0 - ν.i 1 + 4294967296) (by omega) (by omega), Int.tmod_eq_emod_of_nonneg (by omega)] at h1
    refine ⟨_, List.mem_cons_self .., rfl, fun _ => ?_, List.Sublist.refl _, pcDen_nil _⟩
    simp only [SV.den, SI.den]
    rw [wrapS (ν.i 0) (by omega) (by omega), wrapS (ν.i 1) (by omega) (by omega), wrapS (ν.i 0 - ν.i 1) (by omega) (by omega), wrapS (ν.i 0 - ν.i 1 + 4294967296) (by omega) (by omega), Int.tmod_eq_emod_of_nonneg (by omega), wrapW, wrapI32]
    congr 1
    rw [wrapS _ (by omega) (by omega)]
    try rw [wrapS _ (by omega) (by omega)]
    omega
theorem oB8_ok : OOK Tryz.prog (oB8 Tryz.prog) inM := withCallF_ok (withCallF_ok noOrac_ok (sum_okC pr noOrac_ok runLo shLo_ok noOrac_ok)) (sum_okC pr noOrac_ok runAh shAh_ok (withCallF_ok noOrac_ok (sum_okC pr noOrac_ok runLo shLo_ok noOrac_ok)))
theorem pcQ8_eq : (eQ8 Tryz.prog).pc = pcQ8 := by kernel_rfl
theorem avQ8 : pav nQ8 (nQ8 + 64) pcQ8 = true := by kernel_rfl
theorem bodyQ8 : sQ8 Tryz.prog = some sumsQ8 := by kernel_rfl
theorem stQ8 : mAll nQ8 0 0 Tryz.prog (eQ8 Tryz.prog).fr (eQ8 Tryz.prog).hp (hQ8 Tryz.prog).fr (hQ8 Tryz.prog).hp = some startQ8 := by kernel_rfl
theorem oneQ8 : (loopsAt Tryz.prog fQ8 8).length = 1 := by kernel_rfl
theorem runQ8 : runX Tryz.prog (oQ8 Tryz.prog) fQ8 tQ8.args tQ8.pc tQ8.hp = some ouQ8 := by kernel_rfl
def manyW8 (l : List Int) : Int := IntKind.i64.wrap (IntKind.i32.wrap (IntKind.u32.wrap (IntKind.u32.wrap (l.getD 1 0) - IntKind.u32.wrap (l.getD 0 0))))
structure FactsQ8 (ν : Env Gh) : Prop where
  len : 4 ≤ (ν.l 0).length ∧ (ν.l 0).length ≤ 300
  sz : Pow ((ν.l 0).length - 2)
  n1 : 0 ≤ manyW8 (ν.l 0)
  n2 : manyW8 (ν.l 0) ≤ (ν.l 0).length - 2
theorem factsQ8 {ν : Env Gh} (h : pcDen ν pcQ8) : FactsQ8 ν := by
  simp only [pcQ8, pcDen_cons_iff, pcDen_nil_iff, SB.den, decide_eq_true_eq, decide_eq_false_iff_not, beq_iff_eq, Bool.or_eq_true] at h
  simp only [SI.den, SL.den] at h
  obtain ⟨h1, h2, h3, h4, h5, h6, h7, h8, -⟩ := h
  rw [wrapS ((ν.l 0).length - 2) (by omega) (by omega)] at h1
  exact ⟨by omega, h7, by unfold manyW8; exact Int.not_lt.1 h2, by unfold manyW8; exact Int.not_lt.1 h1⟩
theorem bQ8_pc {ν : Env Gh} (h : ∀ x ∈ bQ8 Tryz.prog, x.1.den ν ≠ x.2) : pcDen ν pcQ8 := by
  intro c b hm
  have := h (c, !b) (by unfold bQ8; rw [pcQ8_eq]; exact List.mem_map.2 ⟨(c, b), hm, rfl⟩)
  revert this
  simp only
  cases c.den ν <;> cases b <;> simp
theorem idxQ8 (t i sz : Int) (h0 : 0 ≤ i) (h1 : Pow sz) : IntKind.i64.wrap (2 + IntKind.i64.wrap ((IntKind.u32.wrap (IntKind.u32.wrap t + IntKind.u32.wrap i)).tmod (IntKind.u32.wrap (IntKind.i64.wrap sz)))) = 2 + (t + i) % 4294967296 % sz ∧ 0 ≤ (t + i) % 4294967296 % sz ∧ (t + i) % 4294967296 % sz < sz ∧ IntKind.u32.wrap (IntKind.i64.wrap sz) = sz := by
  have hp := h1.le
  have e1 : IntKind.u32.wrap (IntKind.i64.wrap sz) = sz := by rw [wrapS _ (by omega) (by omega), wrapW]; omega
  have e2 : IntKind.u32.wrap (IntKind.u32.wrap t + IntKind.u32.wrap i) = (t + i) % 4294967296 := by rw [wrapW, wrapW, wrapW]; omega
  have a0 := Int.emod_nonneg (t + i) (show (4294967296 : Int) ≠ 0 by omega)
  have a := Int.emod_nonneg ((t + i) % 4294967296) (show sz ≠ 0 by omega)
  have b := Int.emod_lt_of_pos ((t + i) % 4294967296) (show 0 < sz by omega)
  rw [e1, e2, Int.tmod_eq_emod_of_nonneg a0, wrapS ((t + i) % 4294967296 % sz) (by omega) (by omega), wrapS _ (by omega) (by omega)]
  exact ⟨rfl, a, b, rfl⟩
attribute [local irreducible] nmAt
theorem oQ8_ok : OOK Tryz.prog (oQ8 Tryz.prog) inM := by
  have hp : ∀ {ν : Env Gh} {x : Vals Gh}, (∀ x ∈ bQ8 Tryz.prog, x.1.den ν ≠ x.2) → 0 ≤ x.i 0 → x.i 0 ≤ 300 → (x.l 1).length < 1000 → pcDen (ν.at nQ8 x) (pQ8 Tryz.prog) := by
    intro ν x h h0 h1 h2
    have rf : RF nQ8 ν x (ν.at nQ8 x) := RF.self rfl
    have hold : pcDen (ν.at nQ8 x) pcQ8 := pcDen_agree (at_agree (ρ := fun _ => 0) (ρ' := fun _ => 0) (fun _ _ => rfl)) avQ8 (bQ8_pc h)
    unfold pQ8
    rw [pcQ8_eq]
    simp only [pcDen_cons_iff, SB.den, decide_eq_true_eq, decide_eq_false_iff_not]
    simp only [SI.den, SL.den, rf.i 0 (by decide), rf.l 1 (by decide)]
    exact ⟨by omega, by omega, by omega, hold⟩
  refine loopT_ok pr oB8_ok (rfl : nQ8 = nmAt 8) (by decide +kernel) oneQ8 (ghL []) bodyQ8 stQ8
    (fun ν x => ∃ d : Nat, x.i 0 = d ∧ ((d : Int) ≤ manyW8 (ν.l 0) ∨ d = 0) ∧ x.l 1 = slotsG (ν.l 0) 0 ((ν.l 0).length - 2) ((ν.l 0).getD 0 0) d 4294967296 2 1)
    (fun ν x => (manyW8 (ν.l 0) - x.i 0).toNat) ?_ ?_ oB8_ok
  · intro ν hI h
    have F := factsQ8 (bQ8_pc h)
    generalize hy : Mt.vals startQ8 (ghL []) ν = y
    have y0 : y.i 0 = 0 := by rw [← hy]; simp only [startQ8, Mt.vals, lkp_cons, lkp_nil, Nat.reduceEqDiff, reduceIte, SI.den]
    have y1 : y.l 1 = [] := by rw [← hy]; simp only [startQ8, Mt.vals, lkp_cons, lkp_nil, Nat.reduceEqDiff, reduceIte, SL.den]
    refine ⟨⟨0, y0, .inr rfl, by rw [y1]; rfl⟩, hp h (by omega) (by omega) (by rw [y1]; simp), ?_⟩
    constructor <;> simp [startQ8, SI.den, SL.den, at_l, y1]
  · intro t ht ν x ν2 hI h hJ _ rf hpc
    have F := factsQ8 (bQ8_pc h)
    have F1 := F.len
    have F2 := F.n2
    have F3 := F.n1
    obtain ⟨d, j0, j1, j2⟩ := hJ
    have hidx := idxQ8 ((ν.l 0).getD 0 0) (x.i 0) ((ν.l 0).length - 2) (by omega) F.sz
    have hl : (x.l 1).length = d := by rw [j2, slotsG_length]; omega
    simp only [sumsQ8, List.mem_cons, List.not_mem_nil, or_false] at ht
    rcases ht with rfl | rfl | rfl | rfl | rfl | rfl
    all_goals
      simp only [pcDen_cons_iff, SB.den, decide_eq_true_eq, decide_eq_false_iff_not, beq_iff_eq, beq_eq_false_iff_ne] at hpc
      simp only [SI.den, SL.den, rf.i 0 (by decide), rf.l 1 (by decide), rf.lo 0 (by decide), Int.toNat_zero, show (1 : Int).toNat = 1 from rfl, hidx.1, hl] at hpc
    · show False
      omega
    · show False
      omega
    · show False
      omega
    · have hm : x.i 0 < manyW8 (ν.l 0) := hpc.2.2.2.2.1
      have e0 : IntKind.i64.wrap (x.i 0 + 1) = x.i 0 + 1 := wrapS _ (by omega) (by omega)
      generalize hy : Mt.vals _ (ghL []) ν2 = y
      have y0 : y.i 0 = x.i 0 + 1 := by
        rw [← hy]
        simp only [Mt.vals, lkp_cons, lkp_nil, Nat.reduceEqDiff, reduceIte, SI.den, SL.den, rf.i 0 (by decide)]
        exact e0
      have y1 : y.l 1 = x.l 1 ++ [(ν.l 0).getD (2 + ((ν.l 0).getD 0 0 + x.i 0) % 4294967296 % ((ν.l 0).length - 2)).toNat 0] := by
        rw [← hy]
        simp only [Mt.vals, lkp_cons, lkp_nil, Nat.reduceEqDiff, reduceIte, SI.den, SL.den, rf.i 0 (by decide), rf.l 1 (by decide), rf.lo 0 (by decide), Int.toNat_zero, hidx.1]
      refine ⟨⟨d + 1, by omega, .inl (by omega), ?_⟩, hp h (by omega) (by omega) (by rw [y1]; simp [hl]; omega), by omega, ?_⟩
      · rw [slotsG_step, y1, j2, j0]
        simp only [List.append_cancel_left_eq, List.cons.injEq, and_true]
        rw [Int.one_mul, Int.zero_add]
      · constructor <;> simp [SI.den, SL.den, at_l, y1, rf.l 1 (by decide)]
    · show False
      have := F.sz.le
      have h1 := hpc.1
      rw [hidx.2.2.2] at h1
      omega
    · have rf3 : ∀ y, RF nQ8 ν y (ν.at nQ8 y) := fun y => RF.self rfl
      have hm : ¬ x.i 0 < manyW8 (ν.l 0) := hpc.1
      have e : ∀ y, listV.den (ν.at nQ8 y) = x.l 1 := by
        intro y
        simp only [listV, sizeV, topV, manyV8, SL.den, SG.den, SI.den, (rf3 _).I, hI, (rf3 _).lo 0 (by decide), Int.toNat_zero, show (1 : Int).toNat = 1 from rfl]
        rw [j2]
        show slotsG _ _ _ _ (manyW8 (ν.l 0)) _ _ _ = _
        unfold slotsG
        rw [show (manyW8 (ν.l 0)).toNat = ((d : Nat) : Int).toNat by omega]
      refine ⟨fun g hg => by cases hg; exact pcDen_nil _, ?_⟩
      constructor
      · intro y hy
        simp only [List.mem_cons, List.not_mem_nil, or_false] at hy
        subst hy
        show ((SL.den _ _).length : Int) = ((SL.den (ν.at nQ8 _) listV).length : Int)
        rw [e]
        simp only [SL.den, rf.l 1 (by decide)]
      · intro y hy
        simp only [List.mem_cons, List.not_mem_nil, or_false] at hy
        subst hy
        show SL.den _ _ = SL.den (ν.at nQ8 _) listV
        rw [e]
        simp only [SL.den, rf.l 1 (by decide)]
      · simp
      · simp
/-! in short -/
def okV : SB := .and (.not (.lt manyV8 (.lit 0))) (.not (.lt sizeV manyV8))
def shQ8 : List CLeaf := [⟨false, .tup [.nilSl, .bool (.lit false)], [(okV, false)], tQ8.hp⟩,
  ⟨false, .tup [.sl (nQ8 + 1) (.lit 0) (.len listV) (.var (nQ8 + 1)), .bool (.lit true)], [(okV, true)], tQ8.hp ++ [(nQ8 + 1, .row .u64 listV (.var (nQ8 + 1)) 41)]⟩]
theorem shQ8_ok : ∀ c ∈ ouQ8, ∀ ν : Env Gh, ν.I = inM → pcDen ν c.pc → ∃ c' ∈ shQ8, c'.bad = c.bad ∧ (∀ ρ, c'.v.den ν ρ = c.v.den ν ρ) ∧ c'.hp.Sublist c.hp ∧ pcDen ν c'.pc := by
  intro c hc ν hI hp
  have ok : ∀ b : Bool, okV.den ν = b ↔ ((0 ≤ manyW8 (ν.l 0) ∧ manyW8 (ν.l 0) ≤ ((ν.l 0).length : Int) - 2) ↔ b = true) := fun b => by
    simp only [okV, manyV8, sizeV, SB.den]
    simp only [SI.den, SL.den]
    exact dec_and7
  simp only [ouQ8, List.mem_cons, List.not_mem_nil, or_false] at hc
  have hw : ∀ x : Int, 0 ≤ IntKind.u32.wrap x ∧ IntKind.u32.wrap x < 4294967296 := fun x => by rw [wrapW]; omega
  have hw0 := hw ((ν.l 0).getD 0 0)
  have hw1 := hw ((ν.l 0).getD 1 0)
  rcases hc with rfl | rfl | rfl | rfl | rfl | rfl | rfl | rfl | rfl
  all_goals
    simp only [pcDen_cons_iff, SB.den, decide_eq_true_eq, decide_eq_false_iff_not, beq_iff_eq, beq_eq_false_iff_ne] at hp
    simp only [SI.den, SL.den, Int.toNat_zero, show (1 : Int).toNat = 1 from rfl] at hp
  · omega
  · omega
  · have h1 : manyW8 (ν.l 0) < 0 := hp.1
    exact ⟨_, List.mem_cons_self .., rfl, fun _ => rfl, List.Sublist.refl _, pcDen_one ((ok false).2 (by simp; omega))⟩
  · have h1 : IntKind.i64.wrap (((ν.l 0).length : Int) - 2) < manyW8 (ν.l 0) := hp.1
    rw [wrapS _ (by omega) (by omega)] at h1
    exact ⟨_, List.mem_cons_self .., rfl, fun _ => rfl, List.Sublist.refl _, pcDen_one ((ok false).2 (by simp; omega))⟩
  · have h1 : ¬ IntKind.i64.wrap (((ν.l 0).length : Int) - 2) < manyW8 (ν.l 0) := hp.1
    have h2 : ¬ manyW8 (ν.l 0) < 0 := hp.2.1
    rw [wrapS _ (by omega) (by omega)] at h1
    exact ⟨_, List.mem_of_getElem? (show shQ8[1]? = some _ from rfl), rfl, fun _ => rfl, List.Sublist.refl _, pcDen_one ((ok true).2 (by simp; omega))⟩
  · omega
  · omega
  · omega
  · omega
theorem ref8_ok {O : Orac} (oo : OOK Tryz.prog O inM) : OOK Tryz.prog (O.withCallF fQ8 (sumK Tryz.prog tQ8 shQ8)) inM := withCallF_ok oo (sum_okC pr oQ8_ok runQ8 shQ8_ok oo)
end Go.Proofs.YtiofchhmdkhfoaaGreat
end
