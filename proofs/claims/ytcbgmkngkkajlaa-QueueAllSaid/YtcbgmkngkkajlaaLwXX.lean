/- coachyardref09.All of any cells: its state, its loops' heads. -/
import Derived.Test.YtcbgmkngkkajlaaLwXA
import Derived.Test.YtcbgmkngkkajlaaLwXV
import Derived.Test.YtcbgmkngkkajlaaSyL
import Derived.Test.YtcbgmkngkkajlaaSyM
set_option linter.unusedVariables false
set_option linter.unusedSimpArgs false

section
namespace Go.Proofs.Ytcbgmkngkkajlaa
open Go Go.Sy Go.RowKit

def fQx : Nat := 17
def pcQx0 : PC := [(.lt (.var 2) (.lit 2), false), (.lt (.lit 4096) (.var 2), false), (.eq (.len (.var 0)) (.add (.mul (.lit 3) (.var 2)) (.lit 3)), true), (.lt (.var 0) (.lit 0), false)]
def tQx : Tmpl := ⟨[.sl 0 (.var 0) (.len (.var 0)) (.var 1), .int .i64 (.var 2)], pcQx0, [(0, .view .u64 (.var 0) (.var 0))]⟩
def nQx : Nat := nmAt 4
def nQy : Nat := nm2At 7
def oQx (P : Program) : Orac := (oSm P).pruned P
def eQx (P : Program) : Leaf := capN 0 (capAll P (oQx P) fQx 4 tQx.args tQx.pc tQx.hp)
def visGx : SG := .app 51 (.var 0) (.var 0) (.lit 0) (.var 2) (.lit 0) (.lit 0) (.var 0)
def visLx : SL := .gl 0 visGx (.lit 0) (.lit 0)
def visBx : SB := .gb 0 visGx (.lit 0) (.lit 0)
/-- of what was told, none is this one -/
def memQ : SB := .gb 0 (.app 52 (.var 0) (.var 0) (.var nQx) (.lit 0) (.lit 0) (.lit 0) (.var (nQx + 2))) (.lit 0) (.lit 0)
def pcH (P : Program) : PC := [(.lt (.var nQx) (.lit 1), false), (.lt (.lit 4294967295) (.var nQx), false), (.lt (.len (.var (nQx + 2))) (.lit 1), false), (.lt (.lit 4096) (.len (.var (nQx + 2))), false)] ++ (eQx P).pc
def headsQx (P : Program) : List Tgt := let L := eQx P
  let B := hdN nQx 6 1 .u64 46 (hdN nQx 7 2 .i64 3 { L with fr := (keepFr [0, 1] L.fr).set 8 (.int .i64 (.var nQx)), hp := L.hp.filter fun x => Nat.ble x.1 0 })
  [⟨.normal, B.fr, B.hp, (.lt (.lit 4096) (.len (.var (nQx + 1))), false) :: pcH P⟩]
def hdQx (P : Program) : Tgt := hdAt (headsQx P) 0
def badR (L : Leaf) (pc : PC) : Tgt := ⟨.ret, ((keepFr [] L.fr).set 4 .nilSl).set 5 (.bool (.lit false)), L.hp.filter fun x => Nat.ble x.1 0, pc⟩
/-! the loop within -/
def eQy (P : Program) : Leaf := capN 0 (((codeX P (capt (oQx P) fQx 7) LO7 SZ7 fQx 6000 0 (loopAt P fQx 4) (hdQx P).fr (hdQx P).pc (hdQx P).hp).getD []).filter is777)
def hQy (P : Program) : Leaf := let L := eQy P
  { L with fr := (((keepFr [0, 1, 6, 7] L.fr).set 9 (.int .i64 (.var nQy))).set 8 (.int .i64 (.var (nQy + 1)))).set 7 (.sl (nQx + 2) (.lit 0) (.len (.var (nQy + 2))) (.var (nQx + 2))), hp := setList (nQx + 2) (.var (nQy + 2)) L.hp }
def pQy (P : Program) : PC := [(.lt (.var nQy) (.lit 0), false), (.lt (.lit 4096) (.var nQy), false), (.lt (.lit 4096) (.len (.var (nQy + 2))), false)] ++ (eQy P).pc
def gQy (P : Program) : List Tgt := [⟨.exit 2, keepFr [0, 1, 6, 7, 8] (eQy P).fr, (eQy P).hp, [(memQ, false)]⟩, badR (eQy P) [(memQ, true)]]
def sQy (P : Program) : Option (List SumT) := (codeX P (oQx P) LO8 SZ8 fQx 6000 0 (loopAt P fQx 7) (hQy P).fr (pQy P) (hQy P).hp).bind (sumsT P nQy LO8 SZ8 (⟨.normal, (hQy P).fr, (hQy P).hp, pQy P⟩ :: gQy P))
def oQy (P : Program) : Orac := (oQx P).withLoopF fQx 7 nQy (eQy P).fr (eQy P).hp (mkM nQy (gQy P) ((eQy P).pc.map fun x => (x.1, !x.2)))
/-! the loop around it -/
def gQx (P : Program) : List Tgt := let L := eQx P
  [badR L [(visBx, false)],
   ⟨.ret, ((keepFr [] L.fr).set 4 (.sl (nQx + 1) (.lit 0) (.len (.drop visLx (.lit 1))) (.var (nQx + 1)))).set 5 (.bool (.lit true)), hadd (nQx + 1) (.row .u64 (.drop visLx (.lit 1)) (.var (nQx + 1)) 46) (L.hp.filter fun x => Nat.ble x.1 0), [(visBx, true)]⟩]
def bdQx (P : Program) : PC := (eQx P).pc.map fun x => (x.1, !x.2)
def sums0Qx (P : Program) : Option (List SumT) := (codeX P (oQy P) LO7 SZ7 fQx 6000 0 (loopAt P fQx 4) (eQx P).fr ((bdQx P).map fun x => (x.1, !x.2)) (eQx P).hp).bind fun ls => sumsHd P nQx LO7 SZ7 (headsQx P) (gQx P) (ls.map withRows)
def sums1Qx (P : Program) : Option (List SumT) := (codeX P (oQy P) LO7 SZ7 fQx 6000 0 (loopAt P fQx 4) (hdQx P).fr ([] ++ (hdQx P).pc) (hdQx P).hp).bind fun ls => sumsHd P nQx LO7 SZ7 (headsQx P) (gQx P) (ls.map withRows)
def oQxL (P : Program) : Orac := (oQx P).withLoopF fQx 4 nQx (eQx P).fr (eQx P).hp (mkM nQx (gQx P) (bdQx P))
end Go.Proofs.Ytcbgmkngkkajlaa
end

section
namespace Go.Proofs.Ytcbgmkngkkajlaa
open Go Go.Sy Go.RowKit

def pcQx : PC := [((.lt (.var 2) (.lit 2)), false), ((.lt (.lit 4096) (.var 2)), false), ((.eq (.len (.var 0)) (.add (.mul (.lit 3) (.var 2)) (.lit 3))), true), ((.lt (.var 0) (.lit 0)), false)]
def pcQy : PC := [((.lt (.var 2) (.var (nQx + 0))), false), ((.lt (.lit 4096) (.len (.var (nQx + 1)))), false), ((.lt (.var (nQx + 0)) (.lit 1)), false), ((.lt (.lit 4294967295) (.var (nQx + 0))), false), ((.lt (.len (.var (nQx + 2))) (.lit 1)), false), ((.lt (.lit 4096) (.len (.var (nQx + 2)))), false), ((.lt (.var 2) (.lit 2)), false), ((.lt (.lit 4096) (.var 2)), false), ((.eq (.len (.var 0)) (.add (.mul (.lit 3) (.var 2)) (.lit 3))), true), ((.lt (.var 0) (.lit 0)), false)]
def startQy : Mt := ⟨[], [(0, (.lit 0)), (1, (.var (nQx + 0)))], [(2, (.var (nQx + 2)))], [], [((.len (.var (nQx + 2))), (.len (.var (nQy + 2))))], [], [], []⟩
def sumsQy : List SumT := [
  ⟨.ret, 1, ⟨[], [], [], [], [], [], [], []⟩, [((.eq (.nth (.var (nQy + 2)) (.var (nQy + 0))) (.var (nQy + 1))), true), ((.lt (.var (nQy + 0)) (.len (.var (nQy + 2)))), true), ((.lt (.var (nQy + 0)) (.lit 0)), false), ((.lt (.lit 4096) (.var (nQy + 0))), false), ((.lt (.lit 4096) (.len (.var (nQy + 2)))), false), ((.lt (.var 2) (.var (nQx + 0))), false), ((.lt (.lit 4096) (.len (.var (nQx + 1)))), false), ((.lt (.var (nQx + 0)) (.lit 1)), false), ((.lt (.lit 4294967295) (.var (nQx + 0))), false), ((.lt (.len (.var (nQx + 2))) (.lit 1)), false), ((.lt (.lit 4096) (.len (.var (nQx + 2)))), false), ((.lt (.var 2) (.lit 2)), false), ((.lt (.lit 4096) (.var 2)), false), ((.eq (.len (.var 0)) (.add (.mul (.lit 3) (.var 2)) (.lit 3))), true), ((.lt (.var 0) (.lit 0)), false)]⟩,
  ⟨.normal, 0, ⟨[], [(0, (.add (.var (nQy + 0)) (.lit 1))), (1, (.var (nQy + 1)))], [(2, (.var (nQy + 2)))], [], [((.len (.var (nQy + 2))), (.len (.var (nQy + 2))))], [], [], []⟩, [((.eq (.nth (.var (nQy + 2)) (.var (nQy + 0))) (.var (nQy + 1))), false), ((.lt (.var (nQy + 0)) (.len (.var (nQy + 2)))), true), ((.lt (.var (nQy + 0)) (.lit 0)), false), ((.lt (.lit 4096) (.var (nQy + 0))), false), ((.lt (.lit 4096) (.len (.var (nQy + 2)))), false), ((.lt (.var 2) (.var (nQx + 0))), false), ((.lt (.lit 4096) (.len (.var (nQx + 1)))), false), ((.lt (.var (nQx + 0)) (.lit 1)), false), ((.lt (.lit 4294967295) (.var (nQx + 0))), false), ((.lt (.len (.var (nQx + 2))) (.lit 1)), false), ((.lt (.lit 4096) (.len (.var (nQx + 2)))), false), ((.lt (.var 2) (.lit 2)), false), ((.lt (.lit 4096) (.var 2)), false), ((.eq (.len (.var 0)) (.add (.mul (.lit 3) (.var 2)) (.lit 3))), true), ((.lt (.var 0) (.lit 0)), false)]⟩,
  ⟨.exit 2, 0, ⟨[], [], [], [], [((.var (nQy + 1)), (.var (nQx + 0))), ((.len (.var (nQy + 2))), (.len (.var (nQx + 2))))], [((.var (nQy + 2)), (.var (nQx + 2)))], [], []⟩, [((.lt (.var (nQy + 0)) (.len (.var (nQy + 2)))), false), ((.lt (.var (nQy + 0)) (.lit 0)), false), ((.lt (.lit 4096) (.var (nQy + 0))), false), ((.lt (.lit 4096) (.len (.var (nQy + 2)))), false), ((.lt (.var 2) (.var (nQx + 0))), false), ((.lt (.lit 4096) (.len (.var (nQx + 1)))), false), ((.lt (.var (nQx + 0)) (.lit 1)), false), ((.lt (.lit 4294967295) (.var (nQx + 0))), false), ((.lt (.len (.var (nQx + 2))) (.lit 1)), false), ((.lt (.lit 4096) (.len (.var (nQx + 2)))), false), ((.lt (.var 2) (.lit 2)), false), ((.lt (.lit 4096) (.var 2)), false), ((.eq (.len (.var 0)) (.add (.mul (.lit 3) (.var 2)) (.lit 3))), true), ((.lt (.var 0) (.lit 0)), false)]⟩]
def sums0Q : List SumT := [
  ⟨.ret, 0, ⟨[], [], [], [], [], [], [], []⟩, [((.lt (.wrap .u32 (.tmod (.nth (.var 0) (.lit 0)) (.lit 4294967296))) (.lit 1)), true), ((.lt (.var 2) (.lit 2)), false), ((.lt (.lit 4096) (.var 2)), false), ((.eq (.len (.var 0)) (.add (.mul (.lit 3) (.var 2)) (.lit 3))), true), ((.lt (.var 0) (.lit 0)), false)]⟩,
  ⟨.ret, 0, ⟨[], [], [], [], [], [], [], []⟩, [((.lt (.var 2) (.wrap .u32 (.tmod (.nth (.var 0) (.lit 0)) (.lit 4294967296)))), true), ((.lt (.wrap .u32 (.tmod (.nth (.var 0) (.lit 0)) (.lit 4294967296))) (.lit 1)), false), ((.lt (.var 2) (.lit 2)), false), ((.lt (.lit 4096) (.var 2)), false), ((.eq (.len (.var 0)) (.add (.mul (.lit 3) (.var 2)) (.lit 3))), true), ((.lt (.var 0) (.lit 0)), false)]⟩,
  ⟨.ret, 1, ⟨[((nQx + 1), 4149515568884766920937229405043402705593434501133353821216073770119029017713153770562099197799189921013375545378842257557425914920311545892516799626746525121312614499445158919012352)], [(1, (.lit 0))], [], [], [((.lit 0), (.len (.drop (.gl 0 (.app 51 (.var 0) (.var 0) (.lit 0) (.var 2) (.lit 0) (.lit 0) (.var 0)) (.lit 0) (.lit 0)) (.lit 1))))], [(.nil, (.drop (.gl 0 (.app 51 (.var 0) (.var 0) (.lit 0) (.var 2) (.lit 0) (.lit 0) (.var 0)) (.lit 0) (.lit 0)) (.lit 1)))], [], []⟩, [((.lt (.var 5260135901548373507240989938168274105320689982042496235319312079158565752695310077655804797075846510492571111485874937884230387346132445072099529836884873778741717873413164887926115924287509065793006145319731200) (.lit 1)), false), ((.lt (.wrap .u32 (.tmod (.nth (.var 0) (.add (.add (.lit 2) (.mul (.lit 2) (.var 2))) (.wrap .u32 (.tmod (.nth (.var 0) (.lit 0)) (.lit 4294967296))))) (.lit 4294967296))) (.lit 1)), true), ((.lt (.var 2) (.wrap .u32 (.tmod (.nth (.var 0) (.lit 0)) (.lit 4294967296)))), false), ((.lt (.wrap .u32 (.tmod (.nth (.var 0) (.lit 0)) (.lit 4294967296))) (.lit 1)), false), ((.lt (.var 2) (.lit 2)), false), ((.lt (.lit 4096) (.var 2)), false), ((.eq (.len (.var 0)) (.add (.mul (.lit 3) (.var 2)) (.lit 3))), true), ((.lt (.var 0) (.lit 0)), false)]⟩,
  ⟨.normal, 0, ⟨[((nQx + 2), 5260135901548373507240989938168274105320689982042496235319312079158565752695310077655804797075846510492571111485874937884230387346132445072099529836884873778741717873413164887926115924287509065793006145319731200), ((nQx + 1), 4149515568884766920937229405043402705593434501133353821216073770119029017713153770562099197799189921013375545378842257557425914920311545892516799626746525121312614499445158919012352)], [(0, (.wrap .u32 (.tmod (.nth (.var 0) (.add (.add (.lit 2) (.mul (.lit 2) (.var 2))) (.wrap .u32 (.tmod (.nth (.var 0) (.lit 0)) (.lit 4294967296))))) (.lit 4294967296)))), (2, (.var 5260135901548373507240989938168274105320689982042496235319312079158565752695310077655804797075846510492571111485874937884230387346132445072099529836884873778741717873413164887926115924287509065793006145319731200)), (1, (.lit 0))], [(2, (.cons (.wrap .u32 (.tmod (.nth (.var 0) (.lit 0)) (.lit 4294967296))) .nil)), (1, .nil)], [], [((.lit 1), (.len (.var (nQx + 2)))), ((.lit 0), (.len (.var (nQx + 1))))], [], [], []⟩, [((.lt (.var 5260135901548373507240989938168274105320689982042496235319312079158565752695310077655804797075846510492571111485874937884230387346132445072099529836884873778741717873413164887926115924287509065793006145319731200) (.lit 1)), false), ((.lt (.wrap .u32 (.tmod (.nth (.var 0) (.add (.add (.lit 2) (.mul (.lit 2) (.var 2))) (.wrap .u32 (.tmod (.nth (.var 0) (.lit 0)) (.lit 4294967296))))) (.lit 4294967296))) (.lit 1)), false), ((.lt (.var 2) (.wrap .u32 (.tmod (.nth (.var 0) (.lit 0)) (.lit 4294967296)))), false), ((.lt (.wrap .u32 (.tmod (.nth (.var 0) (.lit 0)) (.lit 4294967296))) (.lit 1)), false), ((.lt (.var 2) (.lit 2)), false), ((.lt (.lit 4096) (.var 2)), false), ((.eq (.len (.var 0)) (.add (.mul (.lit 3) (.var 2)) (.lit 3))), true), ((.lt (.var 0) (.lit 0)), false)]⟩]
def sums1Q : List SumT := [
  ⟨.ret, 0, ⟨[], [], [], [], [], [], [], []⟩, [((.lt (.var (nQx + 1)) (.len (.var (nQx + 1)))), false), ((.lt (.var (nQx + 2)) (.len (.var (nQx + 2)))), false), ((.lt (.var 2) (.var (nQx + 0))), true), ((.lt (.lit 4096) (.len (.var (nQx + 1)))), false), ((.lt (.var (nQx + 0)) (.lit 1)), false), ((.lt (.lit 4294967295) (.var (nQx + 0))), false), ((.lt (.len (.var (nQx + 2))) (.lit 1)), false), ((.lt (.lit 4096) (.len (.var (nQx + 2)))), false), ((.lt (.var 2) (.lit 2)), false), ((.lt (.lit 4096) (.var 2)), false), ((.eq (.len (.var 0)) (.add (.mul (.lit 3) (.var 2)) (.lit 3))), true), ((.lt (.var 0) (.lit 0)), false)]⟩,
  ⟨.ret, 1, ⟨[((nQx + 1), 5260135901548373507240989934018758536439697023530088371628150928146119520452873177660147467385193699079662965086167888937126593057934558460798740654489722703329942565526290053812152237226327262391496621634355200)], [(1, (.var 5260135901548373507240989934018758536439697023530088371628150928146119520452873177660147467385193699079662965086167888937126593057934558460798740654489722703329942565526290053812152237226327262391496621634355200))], [], [], [((.add (.len (.var (nQx + 1))) (.lit 1)), (.len (.drop (.gl 0 (.app 51 (.var 0) (.var 0) (.lit 0) (.var 2) (.lit 0) (.lit 0) (.var 0)) (.lit 0) (.lit 0)) (.lit 1))))], [((.app (.var (nQx + 1)) (.cons (.nth (.var 0) (.add (.add (.lit 2) (.var 2)) (.var (nQx + 0)))) .nil)), (.drop (.gl 0 (.app 51 (.var 0) (.var 0) (.lit 0) (.var 2) (.lit 0) (.lit 0) (.var 0)) (.lit 0) (.lit 0)) (.lit 1)))], [], []⟩, [((.lt (.var 5260135901548373507240989934018758536439697023530088371628150928146119520452873177660147467385193699079662965086167888937126593057934558460798740654489722703329942565526290053812152237226327262391496621634355200) (.add (.len (.var (nQx + 1))) (.lit 1))), false), ((.lt (.var 5260135901548373507240989938168274105320689982042496235319312079158565752695310077655804797075846510492571111485874937884230387346132445072099529836884873778741717873413164887926115924287509065793006145319731200) (.add (.len (.var (nQx + 2))) (.lit 1))), false), ((.lt (.wrap .u32 (.tmod (.nth (.var 0) (.add (.add (.lit 2) (.mul (.lit 2) (.var 2))) (.var (nQx + 0)))) (.lit 4294967296))) (.lit 1)), true), ((.gb 0 (.app 52 (.var 0) (.var 0) (.var (nQx + 0)) (.lit 0) (.lit 0) (.lit 0) (.var (nQx + 2))) (.lit 0) (.lit 0)), false), ((.lt (.var 2) (.var (nQx + 0))), false), ((.lt (.lit 4096) (.len (.var (nQx + 1)))), false), ((.lt (.var (nQx + 0)) (.lit 1)), false), ((.lt (.lit 4294967295) (.var (nQx + 0))), false), ((.lt (.len (.var (nQx + 2))) (.lit 1)), false), ((.lt (.lit 4096) (.len (.var (nQx + 2)))), false), ((.lt (.var 2) (.lit 2)), false), ((.lt (.lit 4096) (.var 2)), false), ((.eq (.len (.var 0)) (.add (.mul (.lit 3) (.var 2)) (.lit 3))), true), ((.lt (.var 0) (.lit 0)), false)]⟩,
  ⟨.normal, 0, ⟨[((nQx + 2), 5260135901548373507240989938168274105320689982042496235319312079158565752695310077655804797075846510492571111485874937884230387346132445072099529836884873778741717873413164887926115924287509065793006145319731200), ((nQx + 1), 5260135901548373507240989934018758536439697023530088371628150928146119520452873177660147467385193699079662965086167888937126593057934558460798740654489722703329942565526290053812152237226327262391496621634355200)], [(0, (.wrap .u32 (.tmod (.nth (.var 0) (.add (.add (.lit 2) (.mul (.lit 2) (.var 2))) (.var (nQx + 0)))) (.lit 4294967296)))), (2, (.var 5260135901548373507240989938168274105320689982042496235319312079158565752695310077655804797075846510492571111485874937884230387346132445072099529836884873778741717873413164887926115924287509065793006145319731200)), (1, (.var 5260135901548373507240989934018758536439697023530088371628150928146119520452873177660147467385193699079662965086167888937126593057934558460798740654489722703329942565526290053812152237226327262391496621634355200))], [(2, (.app (.var (nQx + 2)) (.cons (.var (nQx + 0)) .nil))), (1, (.app (.var (nQx + 1)) (.cons (.nth (.var 0) (.add (.add (.lit 2) (.var 2)) (.var (nQx + 0)))) .nil)))], [], [((.add (.len (.var (nQx + 2))) (.lit 1)), (.len (.var (nQx + 2)))), ((.add (.len (.var (nQx + 1))) (.lit 1)), (.len (.var (nQx + 1))))], [], [], []⟩, [((.lt (.var 5260135901548373507240989934018758536439697023530088371628150928146119520452873177660147467385193699079662965086167888937126593057934558460798740654489722703329942565526290053812152237226327262391496621634355200) (.add (.len (.var (nQx + 1))) (.lit 1))), false), ((.lt (.var 5260135901548373507240989938168274105320689982042496235319312079158565752695310077655804797075846510492571111485874937884230387346132445072099529836884873778741717873413164887926115924287509065793006145319731200) (.add (.len (.var (nQx + 2))) (.lit 1))), false), ((.lt (.wrap .u32 (.tmod (.nth (.var 0) (.add (.add (.lit 2) (.mul (.lit 2) (.var 2))) (.var (nQx + 0)))) (.lit 4294967296))) (.lit 1)), false), ((.gb 0 (.app 52 (.var 0) (.var 0) (.var (nQx + 0)) (.lit 0) (.lit 0) (.lit 0) (.var (nQx + 2))) (.lit 0) (.lit 0)), false), ((.lt (.var 2) (.var (nQx + 0))), false), ((.lt (.lit 4096) (.len (.var (nQx + 1)))), false), ((.lt (.var (nQx + 0)) (.lit 1)), false), ((.lt (.lit 4294967295) (.var (nQx + 0))), false), ((.lt (.len (.var (nQx + 2))) (.lit 1)), false), ((.lt (.lit 4096) (.len (.var (nQx + 2)))), false), ((.lt (.var 2) (.lit 2)), false), ((.lt (.lit 4096) (.var 2)), false), ((.eq (.len (.var 0)) (.add (.mul (.lit 3) (.var 2)) (.lit 3))), true), ((.lt (.var 0) (.lit 0)), false)]⟩,
  ⟨.ret, 0, ⟨[], [], [], [], [], [], [], []⟩, [((.gb 0 (.app 52 (.var 0) (.var 0) (.var (nQx + 0)) (.lit 0) (.lit 0) (.lit 0) (.var (nQx + 2))) (.lit 0) (.lit 0)), true), ((.lt (.var 2) (.var (nQx + 0))), false), ((.lt (.lit 4096) (.len (.var (nQx + 1)))), false), ((.lt (.var (nQx + 0)) (.lit 1)), false), ((.lt (.lit 4294967295) (.var (nQx + 0))), false), ((.lt (.len (.var (nQx + 2))) (.lit 1)), false), ((.lt (.lit 4096) (.len (.var (nQx + 2)))), false), ((.lt (.var 2) (.lit 2)), false), ((.lt (.lit 4096) (.var 2)), false), ((.eq (.len (.var 0)) (.add (.mul (.lit 3) (.var 2)) (.lit 3))), true), ((.lt (.var 0) (.lit 0)), false)]⟩]
def ouQx : List CLeaf := [
  ⟨false, (.tup [.nilSl, (.bool (.lit false))]), [((.gb 0 (.app 51 (.var 0) (.var 0) (.lit 0) (.var 2) (.lit 0) (.lit 0) (.var 0)) (.lit 0) (.lit 0)), false), ((.lt (.var 2) (.lit 2)), false), ((.lt (.lit 4096) (.var 2)), false), ((.eq (.len (.var 0)) (.add (.mul (.lit 3) (.var 2)) (.lit 3))), true), ((.lt (.var 0) (.lit 0)), false)], [(0, (.view .u64 (.var 0) (.var 0)))]⟩,
  ⟨false, (.tup [(.sl (nQx + 1) (.lit 0) (.len (.drop (.gl 0 (.app 51 (.var 0) (.var 0) (.lit 0) (.var 2) (.lit 0) (.lit 0) (.var 0)) (.lit 0) (.lit 0)) (.lit 1))) (.var (nQx + 1))), (.bool (.lit true))]), [((.gb 0 (.app 51 (.var 0) (.var 0) (.lit 0) (.var 2) (.lit 0) (.lit 0) (.var 0)) (.lit 0) (.lit 0)), true), ((.lt (.var 2) (.lit 2)), false), ((.lt (.lit 4096) (.var 2)), false), ((.eq (.len (.var 0)) (.add (.mul (.lit 3) (.var 2)) (.lit 3))), true), ((.lt (.var 0) (.lit 0)), false)], [(0, (.view .u64 (.var 0) (.var 0))), ((nQx + 1), (.row .u64 (.drop (.gl 0 (.app 51 (.var 0) (.var 0) (.lit 0) (.var 2) (.lit 0) (.lit 0) (.var 0)) (.lit 0) (.lit 0)) (.lit 1)) (.var (nQx + 1)) 46))]⟩]
theorem oQx_ok : OOK Try.prog (oQx Try.prog) inM := pruned_ok pr (opLoadS_ok (opAppendW_ok (opSliceT_ok noOrac_ok)))
theorem pcQx_eq : (eQx Try.prog).pc = pcQx := by kernel_rfl
theorem pcQy_eq : (eQy Try.prog).pc = pcQy := by kernel_rfl
theorem avQx : pav nQx (nQx + 64) pcQx = true := by kernel_rfl
theorem avQy : pav nQy (nQy + 64) pcQy = true := by kernel_rfl
theorem farQ0 : out nQy (nQy + 64) nQx = true := by kernel_rfl
theorem farQ2 : out nQy (nQy + 64) (nQx + 2) = true := by kernel_rfl
theorem bQy : sQy Try.prog = some sumsQy := by kernel_rfl
theorem stQy : mAll nQy 0 0 Try.prog (eQy Try.prog).fr (eQy Try.prog).hp (hQy Try.prog).fr (hQy Try.prog).hp = some startQy := by kernel_rfl
theorem b0Q : sums0Qx Try.prog = some sums0Q := by kernel_rfl
theorem b1Q : sums1Qx Try.prog = some sums1Q := by kernel_rfl
theorem oneQy : (loopsAt Try.prog fQx 7).length = 1 := by kernel_rfl
theorem oneQx : (loopsAt Try.prog fQx 4).length = 1 := by kernel_rfl
theorem runQx : runX Try.prog (oQxL Try.prog) fQx tQx.args tQx.pc tQx.hp = some ouQx := by kernel_rfl
theorem hdQx_pc : (hdQx Try.prog).pc = [(.lt (.lit 4096) (.len (.var (nQx + 1))), false), (.lt (.var nQx) (.lit 1), false), (.lt (.lit 4294967295) (.var nQx), false), (.lt (.len (.var (nQx + 2))) (.lit 1), false), (.lt (.lit 4096) (.len (.var (nQx + 2))), false)] ++ pcQx := by kernel_rfl
theorem y51 {ν : Env Gh} (hI : ν.I = inM) (a b c d : SI) (l : SL) : (SG.app 51 (.var 0) (.var 0) a b c d l).den ν = ⟨0, 0, (vis (l.den ν) (a.den ν) (b.den ν)).isSome, visT (l.den ν) (a.den ν) (b.den ν), [], [], 0⟩ := by simp [SG.den, hI, inM, xga]
theorem y52 {ν : Env Gh} (hI : ν.I = inM) (a b c d : SI) (l : SL) : (SG.app 52 (.var 0) (.var 0) a b c d l).den ν = ⟨0, 0, decide (a.den ν ∈ l.den ν), [], [], [], 0⟩ := by simp [SG.den, hI, inM, xga]
theorem wt32 (x : Int) : IntKind.u32.wrap (x.tmod 4294967296) = x % 4294967296 := by
  rw [IntKind.wrap_u32, Int.tmod_def]
  generalize x.tdiv 4294967296 = q
  omega
theorem memQ_den {ν : Env Gh} (hI : ν.I = inM) : memQ.den ν = decide (ν.i nQx ∈ ν.l (nQx + 2)) := by
  simp only [memQ, SB.den, y52 hI, hI, inM_gb, SI.den, SL.den]
  exact decide_eq_decide.2 Iff.rfl
theorem selfU' {nm s : Nat} (h : nm = nm2At s) {ν : Env Gh} {x : Vals Gh} : RF nm ν x (ν.at nm x) :=
  ⟨rfl, fun _ hj => at_i hj, fun _ hj => at_l hj, fun _ hj => at_g hj, fun m hm => at_io (by rw [h]; exact nm2_small hm), fun m hm => at_lo (by rw [h]; exact nm2_small hm), fun m hm => at_go (by rw [h]; exact nm2_small hm), fun _ _ => rfl⟩
theorem selfU {ν : Env Gh} {x : Vals Gh} : RF nQy ν x (ν.at nQy x) := selfU' (s := 7) rfl
attribute [local irreducible] nmAt nm2At
theorem oQy_ok : OOK Try.prog (oQy Try.prog) inM := by
  refine withLoopF_ok oQx_ok ?_
  have hb : ∀ {ν : Env Gh}, (∀ x ∈ (eQy Try.prog).pc.map fun x => (x.1, !x.2), x.1.den ν ≠ x.2) → pcDen ν pcQy := fun h => by rw [pcQy_eq] at h; exact bads_of h
  have hp : ∀ {ν : Env Gh} {x : Vals Gh}, pcDen ν pcQy → 0 ≤ x.i 0 → x.i 0 ≤ 4096 → ((x.l 2).length : Int) ≤ 4096 → pcDen (ν.at nQy x) (pQy Try.prog) := by
    intro ν x h h0 h1 h2
    have rf : RF nQy ν x (ν.at nQy x) := selfU
    have hold : pcDen (ν.at nQy x) pcQy := pcDen_agree (at_agree (ρ := fun _ => 0) (ρ' := fun _ => 0) (fun _ _ => rfl)) avQy h
    have r0 : (ν.at nQy x).i nQy = x.i 0 := at_i (j := 0) (by decide)
    have r2 : (ν.at nQy x).l (nQy + 2) = x.l 2 := at_l (j := 2) (by decide)
    unfold pQy
    rw [pcQy_eq]
    refine pcDen_append (pcDen_cons (lt_of ?_) (pcDen_cons (lt_of ?_) (pcDen_one (lt_of ?_)))) hold
    · simp only [SI.den, Bool.false_eq_true, iff_false]; rw [r0]; omega
    · simp only [SI.den, Bool.false_eq_true, iff_false]; rw [r0]; omega
    · simp only [SI.den, SL.den, Bool.false_eq_true, iff_false]; rw [r2]; omega
  refine loopU_ok pr oQx_ok (fun h => nm2_small h) (fun h => nm2_big (by decide +kernel) h) (fun h => lo8_small h) oneQy (ghL []) bQy stQy
    (fun ν x => 0 ≤ x.i 0 ∧ x.i 0 ≤ 4096 ∧ x.i 1 = ν.i nQx ∧ x.l 2 = ν.l (nQx + 2) ∧ ((x.l 2).length : Int) ≤ 4096 ∧ ∀ j : Nat, (j : Int) < x.i 0 → (x.l 2).getD j 0 ≠ x.i 1) (fun ν x => (5000 - x.i 0).toNat) ?_ ?_ oQx_ok
  · intro ν hI h
    have hp' := hb h
    have hlen : ((ν.l (nQx + 2)).length : Int) ≤ 4096 := by
      have c := hp'
      simp only [pcQy, pcDen_cons_iff, pcDen_nil_iff, SB.den, decide_eq_true_eq, decide_eq_false_iff_not] at c
      have c1 := c.2.2.2.2.2.1
      simp only [SI.den, SL.den] at c1
      omega
    generalize hy : startQy.vals (ghL []) ν = y
    have y0 : y.i 0 = 0 := by rw [← hy]; simp only [startQy, Mt.vals, lkp_cons, lkp_nil, Nat.reduceEqDiff, reduceIte, SI.den]
    have y1 : y.i 1 = ν.i nQx := by
      rw [← hy]; simp only [startQy, Mt.vals, lkp_cons, lkp_nil, Nat.reduceEqDiff, reduceIte, SI.den]
      rfl
    have y2 : y.l 2 = ν.l (nQx + 2) := by rw [← hy]; simp only [startQy, Mt.vals, lkp_cons, lkp_nil, Nat.reduceEqDiff, reduceIte, SL.den]
    refine ⟨⟨by omega, by omega, y1, y2, by rw [y2]; exact hlen, fun j hj => by omega⟩, hp hp' (by omega) (by omega) (by rw [y2]; exact hlen), ?_⟩
    constructor
    · intro z hz
      simp only [startQy, List.mem_cons, List.not_mem_nil, or_false] at hz
      subst hz
      show ((ν.l (nQx + 2)).length : Int) = (((ν.at nQy y).l (nQy + 2)).length : Int)
      rw [at_l (j := 2) (by decide), y2]
    · simp [startQy]
    · simp [startQy]
    · simp [startQy]
  · intro t ht ν x ν2 hI h hJ _ rf hpc
    have hp' := hb h
    obtain ⟨j0, j1, j2, j3, j4, j5⟩ := hJ
    have q0 : ν2.i (nQy + 0) = x.i 0 := rf.i 0 (by decide)
    have q1 : ν2.i (nQy + 1) = x.i 1 := rf.i 1 (by decide)
    have q2 : ν2.l (nQy + 2) = x.l 2 := rf.l 2 (by decide)
    have hm : ∀ y : Vals Gh, memQ.den (ν.at nQy y) = decide (x.i 1 ∈ x.l 2) := fun y => by
      rw [memQ_den ((selfU : RF nQy ν y (ν.at nQy y)).I.trans hI), at_io farQ0, at_lo farQ2, j2, j3]
    simp only [sumsQy, List.mem_cons, List.not_mem_nil, or_false] at ht
    rcases ht with rfl | rfl | rfl
    · have c0 : (ν2.l (nQy + 2)).getD (ν2.i (nQy + 0)).toNat 0 = ν2.i (nQy + 1) := by
        have := pcAt hpc 0 rfl
        simp only [SB.den, beq_iff_eq] at this
        exact this
      have c1 := lt_den (pcAt hpc 1 rfl)
      simp only [SI.den, SL.den, iff_true] at c1
      rw [q0, q2] at c1
      rw [q0, q1, q2] at c0
      refine ⟨fun g hg => ?_, by constructor <;> simp⟩
      cases hg
      refine pcDen_one ?_
      show memQ.den (ν.at nQy _) = true
      rw [hm, decide_eq_true_eq, ← c0, List.getD_eq_getElem?_getD, List.getElem?_eq_getElem (by omega), Option.getD_some]
      exact List.getElem_mem _
    · have c0 : (ν2.l (nQy + 2)).getD (ν2.i (nQy + 0)).toNat 0 ≠ ν2.i (nQy + 1) := by
        have := pcAt hpc 0 rfl
        simp only [SB.den, beq_eq_false_iff_ne] at this
        exact this
      have c1 := lt_den (pcAt hpc 1 rfl)
      simp only [SI.den, SL.den, iff_true] at c1
      rw [q0, q2] at c1
      rw [q0, q1, q2] at c0
      generalize hy : Mt.vals _ (ghL []) ν2 = y
      have y0 : y.i 0 = x.i 0 + 1 := by rw [← hy]; simp only [Mt.vals, lkp_cons, lkp_nil, Nat.reduceEqDiff, reduceIte, SI.den, q0]
      have y1 : y.i 1 = x.i 1 := by rw [← hy]; simp only [Mt.vals, lkp_cons, lkp_nil, Nat.reduceEqDiff, reduceIte, SI.den, q1]
      have y2 : y.l 2 = x.l 2 := by rw [← hy]; simp only [Mt.vals, lkp_cons, lkp_nil, Nat.reduceEqDiff, reduceIte, SL.den, q2]
      refine ⟨⟨by omega, by omega, by rw [y1]; exact j2, by rw [y2]; exact j3, by rw [y2]; exact j4, fun j hj => ?_⟩, hp hp' (by omega) (by omega) (by rw [y2]; exact j4), by show (5000 - y.i 0).toNat < (5000 - x.i 0).toNat; omega, ?_⟩
      · rw [y1, y2]
        by_cases hc : (j : Int) < x.i 0
        · exact j5 j hc
        · have : j = (x.i 0).toNat := by omega
          rw [this]; exact c0
      · constructor
        · intro z hz
          simp only [List.mem_cons, List.not_mem_nil, or_false] at hz
          subst hz
          show ((ν2.l (nQy + 2)).length : Int) = (((ν.at nQy y).l (nQy + 2)).length : Int)
          rw [at_l (j := 2) (by decide), y2, q2]
        · simp
        · simp
        · simp
    · have c1 := lt_den (pcAt hpc 0 rfl)
      simp only [SI.den, SL.den, Bool.false_eq_true, iff_false] at c1
      rw [q0, q2] at c1
      refine ⟨fun g hg => ?_, ?_⟩
      · cases hg
        refine pcDen_one ?_
        show memQ.den (ν.at nQy _) = false
        rw [hm, decide_eq_false_iff_not]
        intro hmem
        obtain ⟨j, hj, he⟩ := List.mem_iff_getElem.1 hmem
        refine j5 j (by omega) ?_
        rw [List.getD_eq_getElem?_getD, List.getElem?_eq_getElem hj, Option.getD_some, he]
      · constructor
        · intro z hz
          simp only [List.mem_cons, List.not_mem_nil, or_false] at hz
          rcases hz with rfl | rfl
          all_goals first
            | (show ν2.i (nQy + 1) = (ν.at nQy _).i nQx
               rw [q1, at_io farQ0, j2]; done)
            | (show ((ν2.l (nQy + 2)).length : Int) = (((ν.at nQy _).l (nQx + 2)).length : Int)
               rw [q2, at_lo farQ2, j3]; done)
        · intro z hz
          simp only [List.mem_cons, List.not_mem_nil, or_false] at hz
          subst hz
          show ν2.l (nQy + 2) = (ν.at nQy _).l (nQx + 2)
          rw [q2, at_lo farQ2, j3]
        · simp
        · simp
theorem factsQx {ν : Env Gh} (h : pcDen ν pcQx) : 2 ≤ ν.i 2 ∧ ν.i 2 ≤ 4096 ∧ ((ν.l 0).length : Int) = 3 * ν.i 2 + 3 := by
  simp only [pcQx, pcDen_cons_iff, pcDen_nil_iff, SB.den, decide_eq_true_eq, decide_eq_false_iff_not, beq_iff_eq] at h
  simp only [SI.den, SL.den] at h
  exact ⟨by omega, by omega, by omega⟩
theorem oQxL_ok : OOK Try.prog (oQxL Try.prog) inM := by
  refine withLoopF_ok oQx_ok ?_
  have hb : ∀ {ν : Env Gh}, (∀ x ∈ bdQx Try.prog, x.1.den ν ≠ x.2) → pcDen ν pcQx := fun h => by unfold bdQx at h; rw [pcQx_eq] at h; exact bads_of h
  have hp : ∀ {ν : Env Gh} {x : Vals Gh}, pcDen ν pcQx → 1 ≤ x.i 0 → x.i 0 ≤ 4294967295 → ((x.l 1).length : Int) ≤ 4096 → 1 ≤ ((x.l 2).length : Int) → ((x.l 2).length : Int) ≤ 4096 → pcDen (ν.at nQx x) (hdQx Try.prog).pc := by
    intro ν x h h0 h1 h2 h3 h4
    have rf : RF nQx ν x (ν.at nQx x) := RF.self rfl
    have r0 : (ν.at nQx x).i nQx = x.i 0 := rf.i 0 (by decide)
    have hold : pcDen (ν.at nQx x) pcQx := pcDen_agree (at_agree (ρ := fun _ => 0) (ρ' := fun _ => 0) (fun _ _ => rfl)) avQx h
    rw [hdQx_pc]
    refine pcDen_append (pcDen_cons (lt_of ?_) (pcDen_cons (lt_of ?_) (pcDen_cons (lt_of ?_) (pcDen_cons (lt_of ?_) (pcDen_one (lt_of ?_)))))) hold
    · simp only [SI.den, SL.den, rf.l 1 (by decide), Bool.false_eq_true, iff_false]; omega
    · simp only [SI.den, r0, Bool.false_eq_true, iff_false]; omega
    · simp only [SI.den, r0, Bool.false_eq_true, iff_false]; omega
    · simp only [SI.den, SL.den, rf.l 2 (by decide), Bool.false_eq_true, iff_false]; omega
    · simp only [SI.den, SL.den, rf.l 2 (by decide), Bool.false_eq_true, iff_false]; omega
  have hbad : ∀ {ν : Env Gh} {y : Vals Gh}, ν.I = inM → vis (ν.l 0) 0 (ν.i 2) = none → pcDen (ν.at nQx y) [(visBx, false)] := by
    intro ν y hI hv
    have rf : RF nQx ν y (ν.at nQx y) := RF.self rfl
    refine pcDen_one ?_
    simp only [visBx, visGx, SB.den, y51 (rf.I.trans hI), rf.I.trans hI, inM_gb, SI.den, SL.den, rf.io 2 (by decide), rf.lo 0 (by decide), hv]
    rfl
  have fin : ∀ {ν : Env Gh} {y : Vals Gh} {s : List Int}, ν.I = inM → vis (ν.l 0) 0 (ν.i 2) = some s → pcDen (ν.at nQx y) [(visBx, true)] ∧ (SL.drop visLx (.lit 1)).den (ν.at nQx y) = (outs (ν.l 0) 0 (ν.i 2) s).drop 1 := by
    intro ν y s hI hv
    have rf3 : RF nQx ν y (ν.at nQx y) := RF.self rfl
    constructor
    · refine pcDen_one ?_
      simp only [visBx, visGx, SB.den, y51 (rf3.I.trans hI), rf3.I.trans hI, inM_gb, SI.den, SL.den, rf3.io 2 (by decide), rf3.lo 0 (by decide), hv]
      rfl
    · simp only [visLx, visGx, y51 (rf3.I.trans hI), rf3.I.trans hI, inM_gl, SI.den, SL.den, rf3.io 2 (by decide), rf3.lo 0 (by decide), visT_some hv]
      rfl
  refine loopF_ok pr oQy_ok (rfl : nQx = nmAt 4) (by decide +kernel) oneQx (heads := headsQx Try.prog) (tg := gQx Try.prog) (sums := [[([], sums1Q)]]) (sums0 := sums0Q) (n := 6000) (it := 0) (ghL []) rfl ?_ b0Q
    (fun _ ν x => ∃ s u, VI (ν.l 0) 0 (ν.i 2) u s ∧ s ≠ [] ∧ x.i 0 = u % 4294967296 ∧ 1 ≤ x.i 0 ∧ x.l 2 = s ∧ x.l 1 = (outs (ν.l 0) 0 (ν.i 2) s).drop 1)
    (fun _ ν x => (ν.i 2 + 1 - (x.l 2).length).toNat) (fun ν => (ν.i 2 + 1).toNat) ?_ ?_ ?_ oQx_ok
  · intro i h ss hh hs c hc
    match i, hh, hs with
    | 0, hh, hs =>
      cases hs
      simp only [List.mem_singleton] at hc
      subst hc
      have e : h = hdQx Try.prog := by unfold hdQx hdAt; rw [hh]; rfl
      subst e
      exact b1Q
    | n + 1, hh, hs => cases hs
  · intro t ht ν ν2 hI h rf hpc
    have hp' := hb h
    obtain ⟨f0, f1, f2⟩ := factsQx hp'
    have qn : ν2.i 2 = ν.i 2 := rf.io 2 (by decide)
    have ql : ν2.l 0 = ν.l 0 := rf.lo 0 (by decide)
    have hI2 : ν2.I = inM := rf.I.trans hI
    have V := VI.nil (ν.l 0) 0 (ν.i 2)
    simp only [Int.toNat_zero] at V
    simp only [sums0Q, List.mem_cons, List.not_mem_nil, or_false] at ht
    rcases ht with rfl | rfl | rfl | rfl
    all_goals
      simp only [pcDen_cons_iff, pcDen_nil_iff, SB.den, decide_eq_true_eq, decide_eq_false_iff_not, beq_iff_eq] at hpc
      simp only [SI.den, SL.den, qn, ql, wt32, Int.toNat_zero] at hpc
    · refine ⟨fun g hg => ?_, by constructor <;> simp⟩
      cases hg
      exact hbad hI (V.bad (by omega) (by simp) (by omega))
    · refine ⟨fun g hg => ?_, by constructor <;> simp⟩
      cases hg
      exact hbad hI (V.bad (by omega) (by simp) (by omega))
    · have hk : 1 ≤ (ν.l 0).getD 0 0 % 4294967296 ∧ (ν.l 0).getD 0 0 % 4294967296 ≤ ν.i 2 := by omega
      have V2 := V.next (by omega) hk.1 hk.2 (by simp)
      simp only [Int.zero_add] at V2
      have hv := V2.fine (by omega) (by omega) (by simp)
      refine ⟨fun g hg => ?_, ?_⟩
      · cases hg
        exact (fin hI hv).1
      · constructor
        · intro z hz
          simp only [List.mem_cons, List.not_mem_nil, or_false] at hz
          subst hz
          show (0 : Int) = (((SL.drop visLx (.lit 1)).den (ν.at nQx _)).length : Int)
          rw [(fin hI hv).2]
          simp [outs]
        · intro z hz
          simp only [List.mem_cons, List.not_mem_nil, or_false] at hz
          subst hz
          refine Eq.trans ?_ (fin hI hv).2.symm
          simp [outs, SL.den]
        · simp
        · simp
    · intro g hg
      dsimp only at hg ⊢
      generalize hy : Mt.vals _ (ghL []) ν2 = y
      have hk : 1 ≤ (ν.l 0).getD 0 0 % 4294967296 ∧ (ν.l 0).getD 0 0 % 4294967296 ≤ ν.i 2 := by omega
      have V2 := V.next (by omega) hk.1 hk.2 (by simp)
      simp only [Int.zero_add] at V2
      have y0 : y.i 0 = (ν.l 0).getD (2 + 2 * ν.i 2 + (ν.l 0).getD 0 0 % 4294967296).toNat 0 % 4294967296 := by
        rw [← hy]
        simp only [Mt.vals, lkp_cons, lkp_nil, Nat.reduceEqDiff, reduceIte, SI.den, SL.den, qn, ql, wt32, Int.toNat_zero]
      have y1 : y.l 1 = [] := by
        rw [← hy]
        simp only [Mt.vals, lkp_cons, lkp_nil, Nat.reduceEqDiff, reduceIte, SI.den, SL.den]
      have y2 : y.l 2 = [(ν.l 0).getD 0 0 % 4294967296] := by
        rw [← hy]
        simp only [Mt.vals, lkp_cons, lkp_nil, Nat.reduceEqDiff, reduceIte, SI.den, SL.den, qn, ql, wt32, Int.toNat_zero]
      have e : g = hdQx Try.prog := by unfold hdQx hdAt; rw [hg]; rfl
      subst e
      have hy0 : 1 ≤ y.i 0 ∧ y.i 0 ≤ 4294967295 := by rw [y0]; omega
      refine ⟨⟨_, _, V2, by simp, y0, hy0.1, y2, by rw [y1]; simp [outs]⟩, hp hp' hy0.1 hy0.2 (by rw [y1]; simp) (by rw [y2]; simp) (by rw [y2]; simp), by rw [y2]; simp only [List.length_cons, List.length_nil]; omega, ?_⟩
      · constructor <;> simp [SI.den, SL.den, at_l, y1, y2]
  · intro i h ss hh hs ν x _ _ _ _
    match i, hs with
    | 0, hs => cases hs; exact ⟨_, List.mem_singleton.2 rfl, pcDen_nil _⟩
    | n + 1, hs => cases hs
  · intro i h ss hh hs c hc t ht ν x ν2 hI hbd hJ hpch _ rf hpc
    have hp' := hb hbd
    obtain ⟨f0, f1, f2⟩ := factsQx hp'
    obtain ⟨s, u, V, sn, j0, j0', j2, j1⟩ := hJ
    have qn : ν2.i 2 = ν.i 2 := rf.io 2 (by decide)
    have ql : ν2.l 0 = ν.l 0 := rf.lo 0 (by decide)
    have hI2 : ν2.I = inM := rf.I.trans hI
    have q0 : ν2.i (nQx + 0) = x.i 0 := rf.i 0 (by decide)
    have q1 : ν2.l (nQx + 1) = x.l 1 := rf.l 1 (by decide)
    have q2 : ν2.l (nQx + 2) = x.l 2 := rf.l 2 (by decide)
    have hl := V.len (by omega)
    have hs0 : 1 ≤ (s.length : Int) := by cases s with | nil => exact (sn rfl).elim | cons a r => simp only [List.length_cons]; omega
    match i, hh, hs with
    | n + 1, hh, hs => cases hs
    | 0, hh, hs =>
      cases hs
      simp only [List.mem_singleton] at hc
      subst hc
      have hdr : ∀ k v, v = (ν.l 0).getD (2 + ν.i 2 + k).toNat 0 → (outs (ν.l 0) 0 (ν.i 2) (s ++ [k])).drop 1 = (outs (ν.l 0) 0 (ν.i 2) s).drop 1 ++ [v] := by
        intro k v hv
        rw [outs_add, List.drop_append_of_le_length (by rw [outs_length]; omega), hv]
        simp only [Int.zero_add]
      simp only [sums1Q, List.mem_cons, List.not_mem_nil, or_false] at ht
      rcases ht with rfl | rfl | rfl | rfl
      · have c := lt_den (pcAt hpc 2 rfl)
        simp only [SI.den, iff_true] at c
        rw [qn, q0] at c
        refine ⟨fun g hg => ?_, by constructor <;> simp⟩
        cases hg
        exact hbad hI (V.bad (by omega) (by omega) (by omega))
      · have c2 := lt_den (pcAt hpc 2 rfl)
        have c3 : memQ.den ν2 = false := pcAt hpc 3 rfl
        have c4 := lt_den (pcAt hpc 4 rfl)
        simp only [SI.den, SL.den, wt32, iff_true, Bool.false_eq_true, iff_false] at c2 c4
        rw [qn, ql, q0] at c2
        rw [qn, q0] at c4
        rw [memQ_den hI2, show ν2.i nQx = x.i 0 from q0, q2, decide_eq_false_iff_not, j0, j2] at c3
        have V2 := V.next (by omega) (by omega) (by omega) c3
        simp only [Int.zero_add] at V2
        rw [← j0] at V2
        have hv := V2.fine (by omega) (by omega) (by simp)
        have ev : ν2.l (nQx + 1) ++ [(ν2.l 0).getD (2 + ν2.i 2 + ν2.i (nQx + 0)).toNat 0] = (outs (ν.l 0) 0 (ν.i 2) (s ++ [x.i 0])).drop 1 := by
          rw [q1, ql, qn, q0, hdr _ _ rfl, j1]
        refine ⟨fun g hg => ?_, ?_⟩
        · cases hg
          exact (fin hI hv).1
        · constructor
          · intro z hz
            simp only [List.mem_cons, List.not_mem_nil, or_false] at hz
            subst hz
            show ((ν2.l (nQx + 1)).length : Int) + 1 = (((SL.drop visLx (.lit 1)).den (ν.at nQx _)).length : Int)
            rw [(fin hI hv).2, ← ev, List.length_append]
            rfl
          · intro z hz
            simp only [List.mem_cons, List.not_mem_nil, or_false] at hz
            subst hz
            exact ev.trans (fin hI hv).2.symm
          · simp
          · simp
      · intro g hg
        dsimp only at hg ⊢
        have c2 := lt_den (pcAt hpc 2 rfl)
        have c3 : memQ.den ν2 = false := pcAt hpc 3 rfl
        have c4 := lt_den (pcAt hpc 4 rfl)
        simp only [SI.den, SL.den, wt32, iff_true, Bool.false_eq_true, iff_false] at c2 c4
        rw [qn, ql, q0] at c2
        rw [qn, q0] at c4
        rw [memQ_den hI2, show ν2.i nQx = x.i 0 from q0, q2, decide_eq_false_iff_not, j0, j2] at c3
        have V2 := V.next (by omega) (by omega) (by omega) c3
        simp only [Int.zero_add] at V2
        rw [← j0] at V2
        have hl2 := V2.len (by omega)
        rw [List.length_append, List.length_singleton] at hl2
        generalize hy : Mt.vals _ (ghL []) ν2 = y
        have y0 : y.i 0 = (ν.l 0).getD (2 + 2 * ν.i 2 + x.i 0).toNat 0 % 4294967296 := by
          rw [← hy]
          simp only [Mt.vals, lkp_cons, lkp_nil, Nat.reduceEqDiff, reduceIte, SI.den, SL.den, qn, ql, wt32, q0]
        have y1' : y.l 1 = x.l 1 ++ [(ν.l 0).getD (2 + ν.i 2 + x.i 0).toNat 0] := by
          rw [← hy]
          simp only [Mt.vals, lkp_cons, lkp_nil, Nat.reduceEqDiff, reduceIte, SI.den, SL.den, q1, qn, ql, q0]
        have y2' : y.l 2 = x.l 2 ++ [x.i 0] := by
          rw [← hy]
          simp only [Mt.vals, lkp_cons, lkp_nil, Nat.reduceEqDiff, reduceIte, SI.den, SL.den, q2, q0]
        have y1 : y.l 1 = (outs (ν.l 0) 0 (ν.i 2) (s ++ [x.i 0])).drop 1 := by rw [y1', hdr _ _ rfl, j1]
        have y2 : y.l 2 = s ++ [x.i 0] := by rw [y2', j2]
        have l2 : ((y.l 2).length : Int) = s.length + 1 := by rw [y2, List.length_append]; rfl
        have l2x : ((x.l 2).length : Int) = s.length := by rw [j2]
        have l1 : ((y.l 1).length : Int) ≤ s.length + 1 := by rw [y1, List.length_drop, outs_length, List.length_append]; simp only [List.length_cons, List.length_nil]; omega
        have e : g = hdQx Try.prog := by unfold hdQx hdAt; rw [hg]; rfl
        subst e
        have hy0 : 1 ≤ y.i 0 ∧ y.i 0 ≤ 4294967295 := by rw [y0]; omega
        refine ⟨⟨_, _, V2, by simp, y0, hy0.1, y2, y1⟩, hp hp' hy0.1 hy0.2 (by omega) (by omega) (by omega), by omega, ?_⟩
        · constructor <;> simp [SI.den, SL.den, at_l, y1', y2', q1, q2]
      · have c3 : memQ.den ν2 = true := pcAt hpc 0 rfl
        rw [memQ_den hI2, show ν2.i nQx = x.i 0 from q0, q2, decide_eq_true_eq, j0, j2] at c3
        refine ⟨fun g hg => ?_, by constructor <;> simp⟩
        cases hg
        exact hbad hI (V.bad (by omega) (by omega) (.inr (.inr c3)))
theorem quX_ok {O : Orac} (oo : OOK Try.prog O inM) : OOK Try.prog (O.withCallF fQx (sumK Try.prog tQx ouQx)) inM := withCallF_ok oo (sum_ok pr oQxL_ok runQx oo)
end Go.Proofs.Ytcbgmkngkkajlaa
end
