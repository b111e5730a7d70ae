/- Is a lane's walk like the document's, round by round. (Printed by lk32.py.) -/
import Derived.Test.YtlmenjenkpnacaaLwXA
import Derived.Test.YtlmenjenkpnacaaLwXV
import Derived.Test.YtlmenjenkpnacaaLwXL
set_option linter.unusedVariables false
set_option linter.unusedSimpArgs false

section
namespace Go.Proofs.Ytlmenjenkpnacaa
open Go Go.Sy Go.RowKit

def zLwLk32tn0 : Nat := 5260135901548373507240989934051954660990865910900270587425800544135789750721464534153862088458011978458707119886736764038346213376708239531651928200578895925262892886444283685927536706121097584283903711464390656
def zLwLk32tn1 : Nat := 5260135901548373507240989921752790514827527715398137903463817006865051110766797039493633924737851398825188014377698376052382721259776123532726058215851836366363196767622612276723328850132891802511101513793798144
def qLwLk32tn0 : SG := (.app 76 (.var 2) (.app 81 (.var 1) (.var 0) (.add (.var 7) (.lit 1)) (.lit 0) (.lit 0) (.lit 0) (.cons (.var 0) (.cons (.var 1) (.cons (.lit 0) (.cons (.lit 0) (.cons (.lit 1) (.cons (.lit 0) (.cons (.lit 0) (.cons (.lit 0) (.cons (.lit 0) .nil)))))))))) (.lit 0) (.lit 0) (.lit 0) (.lit 0) .nil)
def qLwLk32tn1 : SI := (.gi 17 (.app 78 (.var 2) (.var 0) (.lit 121) (.lit 10) (.var 2) (.lit 0) (.cons (.lit 3) (.cons (.lit 3) (.cons (.lit 7) (.cons (.lit 7) (.cons (.lit 8) (.cons (.lit 3) (.cons (.lit 7) (.cons (.lit 10) (.cons (.lit 8) (.cons (.lit 10) .nil))))))))))) (.lit 0) (.lit 0))
def qLwLk32tn2 : SG := (.app 2 (.app 1 (.var 0) (.var 0) (.lit 0) (.lit 0) (.lit 0) (.lit 0) .nil) (.app 1 (.var 0) (.var 0) (.lit 0) (.lit 0) (.lit 0) (.lit 0) (.gl 0 (.app 70 (.var 2) (.var 2) (.mul (.var (nLk + 0)) (.lit 10)) (.lit 9) (.lit 0) (.lit 0) .nil) (.lit 0) (.lit 0))) (.lit 0) (.lit 0) (.lit 0) (.lit 0) .nil)
def qLwLk32tn3 : SG := (.app 70 (.var 2) (.var 2) (.mul (.var (nLk + 0)) (.lit 10)) (.lit 4) (.lit 0) (.lit 0) .nil)
def qLwLk32tn4 : SG := (.app 70 (.var 2) (.var 2) (.mul (.var (nLk + 0)) (.lit 10)) (.lit 8) (.lit 0) (.lit 0) .nil)
def qLwLk32tn5 : SG := (.app 2 (.app 1 (.var 0) (.var 0) (.lit 0) (.lit 0) (.lit 0) (.lit 0) (.cons (.var (nLk + 16)) .nil)) (.app 1 (.var 0) (.var 0) (.lit 0) (.lit 0) (.lit 0) (.lit 0) (.gl 0 (.app 70 (.var 2) (.var 2) (.mul (.var (nLk + 0)) (.lit 10)) (.lit 9) (.lit 0) (.lit 0) .nil) (.lit 0) (.lit 0))) (.lit 0) (.lit 0) (.lit 0) (.lit 0) .nil)
def qLwLk32tn6 : SG := (.app 2 (.app 1 (.var 0) (.var 0) (.lit 0) (.lit 0) (.lit 0) (.lit 0) .nil) (.app 1 (.var 0) (.var 0) (.lit 0) (.lit 0) (.lit 0) (.lit 0) (.gl 0 (.app 70 (.var 2) (.var 2) (.mul (.var (nLk + 0)) (.lit 10)) (.lit 7) (.lit 0) (.lit 0) .nil) (.lit 0) (.lit 0))) (.lit 0) (.lit 0) (.lit 0) (.lit 0) .nil)
def tLwLk32tn0 : PC := [((.lt (.var 7) (.var (nLk + 0))), false), ((.eq (.var (nLk + 10)) (.gi 15 (.var 2) (.mul (.var (nLk + 0)) (.lit 10)) (.lit 0))), true), ((.eq (.var (nLk + 11)) (.gi 15 (.var 2) (.mul (.var (nLk + 0)) (.lit 10)) (.lit 1))), true), ((.eq (.var (nLk + 12)) (.gi 15 (.var 2) (.mul (.var (nLk + 0)) (.lit 10)) (.lit 2))), true), ((.eq (.var (nLk + 13)) (.gi 15 (.var 2) (.mul (.var (nLk + 0)) (.lit 10)) (.lit 3))), true), ((.same (.lit true) (.gb 0 qLwLk32tn3 (.lit 0) (.lit 0))), true), ((.same (.lit false) (.gb 0 qLwLk32tn4 (.lit 0) (.lit 0))), true), ((.gb 0 qLwLk32tn2 (.lit 0) (.lit 0)), true), ((.lt (.var (nLk + 0)) (.lit 0)), false), ((.lt (.add (.var 7) (.lit 1)) (.var (nLk + 0))), false), ((.lt (.var (nLk + 2)) (.lit 0)), false), ((.lt (.var (nLk + 2)) (.lit 18446744073709551616)), true), ((.gb 0 qLwLk32tn0 (.lit 0) (.lit 0)), true), ((.eq qLwLk32tn1 (.add (.var 7) (.lit 1))), true), ((.lt (.var 0) (.lit 0)), false), ((.lt (.var 0) (.sub (.lit 65535) (.mul (.lit 2) (.var 1)))), true), ((.lt (.var 1) (.lit 2)), false), ((.lt (.lit 256) (.var 1)), false), ((.or (.eq (.var 1) (.lit 2)) (.or (.eq (.var 1) (.lit 4)) (.or (.eq (.var 1) (.lit 8)) (.or (.eq (.var 1) (.lit 16)) (.or (.eq (.var 1) (.lit 32)) (.or (.eq (.var 1) (.lit 64)) (.or (.eq (.var 1) (.lit 128)) (.eq (.var 1) (.lit 256))))))))), true), ((.lt (.var 7) (.lit 0)), false), ((.lt (.lit 200) (.var 7)), false), ((.lt (.var 8) (.lit 0)), false), ((.gb 0 (.app 83 (.var 1) (.var 0) (.lit 0) (.lit 0) (.lit 0) (.lit 0) .nil) (.lit 0) (.lit 0)), true)]
def tLwLk32tn1 : PC := [((.gb 0 qLwLk32tn0 (.lit 0) (.lit 0)), true), ((.eq qLwLk32tn1 (.add (.var 7) (.lit 1))), true), ((.lt (.var 0) (.lit 0)), false), ((.lt (.var 0) (.sub (.lit 65535) (.mul (.lit 2) (.var 1)))), true), ((.lt (.var 1) (.lit 2)), false), ((.lt (.lit 256) (.var 1)), false), ((.or (.eq (.var 1) (.lit 2)) (.or (.eq (.var 1) (.lit 4)) (.or (.eq (.var 1) (.lit 8)) (.or (.eq (.var 1) (.lit 16)) (.or (.eq (.var 1) (.lit 32)) (.or (.eq (.var 1) (.lit 64)) (.or (.eq (.var 1) (.lit 128)) (.eq (.var 1) (.lit 256))))))))), true), ((.lt (.var 7) (.lit 0)), false), ((.lt (.lit 200) (.var 7)), false), ((.lt (.var 8) (.lit 0)), false), ((.gb 0 (.app 83 (.var 1) (.var 0) (.lit 0) (.lit 0) (.lit 0) (.lit 0) .nil) (.lit 0) (.lit 0)), true)]
def pcLk32tn : PC := tLwLk32tn1
def stLk32tn : Mt := ⟨[], [(2, (.lit 0)), (13, (.lit 0)), (12, (.lit 0)), (11, (.add (.var 0) (.lit 1))), (10, (.lit 1)), (0, (.lit 0))], [], [], [], [], [], []⟩
def sLk32tn00 : List SumT := [
  ⟨.ret, 1, ⟨[], [], [], [], [], [], [], []⟩, (((.gb 0 qLwLk32tn3 (.lit 0) (.lit 0)), false) :: tLwLk32tn0)⟩,
  ⟨.ret, 1, ⟨[], [], [], [], [], [], [], []⟩, (((.gb 0 qLwLk32tn4 (.lit 0) (.lit 0)), true) :: ((.gb 0 qLwLk32tn3 (.lit 0) (.lit 0)), true) :: tLwLk32tn0)⟩,
  ⟨.normal, 1, ⟨[], [(2, (.gi 10 (.var 1) (.var (nLk + 0)) (.lit 0))), (13, (.lit 0)), (12, (.lit 0)), (11, (.add (.add (.var 0) (.lit 2)) (.mul (.lit 2) (.bits 0 .u64 (.gi 10 (.var 1) (.var (nLk + 0)) (.lit 0)) (.sub (.var 1) (.lit 1)))))), (10, (.lit 1)), (0, (.add (.var (nLk + 0)) (.lit 1)))], [], [], [], [], [], []⟩, (((.lt (.var (nLk + 0)) (.var 7)), true) :: ((.gb 0 qLwLk32tn4 (.lit 0) (.lit 0)), false) :: ((.gb 0 qLwLk32tn3 (.lit 0) (.lit 0)), true) :: tLwLk32tn0)⟩,
  ⟨.normal, 0, ⟨[], [(2, (.var (nLk + 2))), (13, (.var (nLk + 13))), (12, (.var (nLk + 12))), (11, (.var (nLk + 11))), (10, (.var (nLk + 10))), (0, (.add (.var (nLk + 0)) (.lit 1)))], [], [], [], [], [], []⟩, (((.lt (.var (nLk + 0)) (.var 7)), false) :: ((.gb 0 qLwLk32tn4 (.lit 0) (.lit 0)), false) :: ((.gb 0 qLwLk32tn3 (.lit 0) (.lit 0)), true) :: tLwLk32tn0)⟩]
def sLk32tn01 : List SumT := [
  ⟨.exit 0, 0, ⟨[], [], [], [], [], [], [], []⟩, (((.lt (.var 7) (.var (nLk + 0))), true) :: ((.lt (.var (nLk + 0)) (.lit 0)), false) :: ((.lt (.add (.var 7) (.lit 1)) (.var (nLk + 0))), false) :: ((.lt (.var (nLk + 2)) (.lit 0)), false) :: ((.lt (.var (nLk + 2)) (.lit 18446744073709551616)), true) :: tLwLk32tn1)⟩]
def sLk32tn10 : List SumT := [
  ⟨.ret, 1, ⟨[], [], [], [], [], [], [], []⟩, (((.gb 0 qLwLk32tn3 (.lit 0) (.lit 0)), false) :: tLwLk32tn0)⟩,
  ⟨.ret, 1, ⟨[], [], [], [], [], [], [], []⟩, (((.gb 0 qLwLk32tn4 (.lit 0) (.lit 0)), true) :: ((.gb 0 qLwLk32tn3 (.lit 0) (.lit 0)), true) :: tLwLk32tn0)⟩,
  ⟨.normal, 5, ⟨[], [(15, (.lit 0)), (14, (.lit 5)), (13, (.var (nLk + 13))), (12, (.var (nLk + 12))), (11, (.var (nLk + 11))), (10, (.var (nLk + 10))), (0, (.add (.var (nLk + 0)) (.lit 1)))], [], [], [], [], [], []⟩, (((.lt (.wrap .i64 (.wrap .u64 (.sub (.wrap .u64 (.sub (.gi 10 (.var 1) (.var (nLk + 0)) (.lit 0)) (.var (nLk + 2)))) (.lit 1)))) (.lit 0)), true) :: ((.lt (.var (nLk + 0)) (.var 7)), true) :: ((.gb 0 qLwLk32tn4 (.lit 0) (.lit 0)), false) :: ((.gb 0 qLwLk32tn3 (.lit 0) (.lit 0)), true) :: tLwLk32tn0)⟩,
  ⟨.normal, 0, ⟨[], [(2, (.var (nLk + 2))), (13, (.lit 0)), (12, (.lit 0)), (11, (.add (.var 0) (.lit 1))), (10, (.lit 1)), (0, (.add (.var (nLk + 0)) (.lit 1)))], [], [], [], [], [], []⟩, (((.lt (.wrap .i64 (.wrap .u64 (.sub (.wrap .u64 (.sub (.gi 10 (.var 1) (.var (nLk + 0)) (.lit 0)) (.var (nLk + 2)))) (.lit 1)))) (.lit 1)), false) :: ((.lt (.wrap .i64 (.wrap .u64 (.sub (.wrap .u64 (.sub (.gi 10 (.var 1) (.var (nLk + 0)) (.lit 0)) (.var (nLk + 2)))) (.lit 1)))) (.lit 0)), false) :: ((.lt (.var (nLk + 0)) (.var 7)), true) :: ((.gb 0 qLwLk32tn4 (.lit 0) (.lit 0)), false) :: ((.gb 0 qLwLk32tn3 (.lit 0) (.lit 0)), true) :: tLwLk32tn0)⟩,
  ⟨.normal, 2, ⟨[], [(2, (.var (nLk + 2))), (13, (.wrap .u64 (.add (.var (nLk + 2)) (.lit 1)))), (12, (.var (nLk + 2))), (11, (.add (.var 0) (.lit 1))), (10, (.lit 3)), (0, (.add (.var (nLk + 0)) (.lit 1)))], [], [], [], [], [], []⟩, (((.lt (.wrap .i64 (.wrap .u64 (.sub (.wrap .u64 (.sub (.gi 10 (.var 1) (.var (nLk + 0)) (.lit 0)) (.var (nLk + 2)))) (.lit 1)))) (.lit 1)), true) :: ((.lt (.wrap .i64 (.wrap .u64 (.sub (.wrap .u64 (.sub (.gi 10 (.var 1) (.var (nLk + 0)) (.lit 0)) (.var (nLk + 2)))) (.lit 1)))) (.lit 0)), false) :: ((.lt (.var (nLk + 0)) (.var 7)), true) :: ((.gb 0 qLwLk32tn4 (.lit 0) (.lit 0)), false) :: ((.gb 0 qLwLk32tn3 (.lit 0) (.lit 0)), true) :: tLwLk32tn0)⟩,
  ⟨.normal, 1, ⟨[], [(2, (.var (nLk + 2))), (13, (.var (nLk + 13))), (12, (.var (nLk + 12))), (11, (.var (nLk + 11))), (10, (.var (nLk + 10))), (0, (.add (.var (nLk + 0)) (.lit 1)))], [], [], [], [], [], []⟩, (((.lt (.var (nLk + 0)) (.var 7)), false) :: ((.gb 0 qLwLk32tn4 (.lit 0) (.lit 0)), false) :: ((.gb 0 qLwLk32tn3 (.lit 0) (.lit 0)), true) :: tLwLk32tn0)⟩]
def sLk32tn11 : List SumT := [
  ⟨.exit 0, 0, ⟨[], [], [], [], [], [], [], []⟩, (((.lt (.var 7) (.var (nLk + 0))), true) :: ((.lt (.var (nLk + 0)) (.lit 0)), false) :: ((.lt (.add (.var 7) (.lit 1)) (.var (nLk + 0))), false) :: ((.lt (.var (nLk + 2)) (.lit 0)), false) :: ((.lt (.var (nLk + 2)) (.lit 18446744073709551616)), true) :: tLwLk32tn1)⟩]
def sLk32tn20 : List SumT := [
  ⟨.ret, 1, ⟨[], [], [], [], [], [], [], []⟩, (((.gb 0 qLwLk32tn3 (.lit 0) (.lit 0)), false) :: tLwLk32tn0)⟩,
  ⟨.ret, 1, ⟨[], [], [], [], [], [], [], []⟩, (((.gb 0 qLwLk32tn4 (.lit 0) (.lit 0)), true) :: ((.gb 0 qLwLk32tn3 (.lit 0) (.lit 0)), true) :: tLwLk32tn0)⟩,
  ⟨.normal, 1, ⟨[], [(2, (.gi 10 (.var 1) (.var (nLk + 0)) (.lit 0))), (13, (.lit 0)), (12, (.lit 0)), (11, (.add (.add (.var 0) (.lit 2)) (.mul (.lit 2) (.bits 0 .u64 (.gi 10 (.var 1) (.var (nLk + 0)) (.lit 0)) (.sub (.var 1) (.lit 1)))))), (10, (.lit 1)), (0, (.add (.var (nLk + 0)) (.lit 1)))], [], [], [], [], [], []⟩, (((.gb 11 (.var 1) (.var (nLk + 0)) (.lit 0)), false) :: ((.lt (.var (nLk + 0)) (.var 7)), true) :: ((.gb 0 qLwLk32tn4 (.lit 0) (.lit 0)), false) :: ((.gb 0 qLwLk32tn3 (.lit 0) (.lit 0)), true) :: tLwLk32tn0)⟩,
  ⟨.normal, 3, ⟨[], [(2, (.var (nLk + 2))), (13, (.lit 0)), (12, (.lit 0)), (11, (.add (.add (.add (.var 0) (.lit 2)) (.mul (.lit 2) (.bits 0 .u64 (.var (nLk + 2)) (.sub (.var 1) (.lit 1))))) (.lit 1))), (10, (.lit 1)), (0, (.add (.var (nLk + 0)) (.lit 1)))], [], [], [], [], [], []⟩, (((.gb 11 (.var 1) (.var (nLk + 0)) (.lit 0)), true) :: ((.lt (.var (nLk + 0)) (.var 7)), true) :: ((.gb 0 qLwLk32tn4 (.lit 0) (.lit 0)), false) :: ((.gb 0 qLwLk32tn3 (.lit 0) (.lit 0)), true) :: tLwLk32tn0)⟩,
  ⟨.normal, 2, ⟨[], [(2, (.var (nLk + 2))), (13, (.var (nLk + 13))), (12, (.var (nLk + 12))), (11, (.var (nLk + 11))), (10, (.var (nLk + 10))), (0, (.add (.var (nLk + 0)) (.lit 1)))], [], [], [], [], [], []⟩, (((.lt (.var (nLk + 0)) (.var 7)), false) :: ((.gb 0 qLwLk32tn4 (.lit 0) (.lit 0)), false) :: ((.gb 0 qLwLk32tn3 (.lit 0) (.lit 0)), true) :: tLwLk32tn0)⟩]
def sLk32tn21 : List SumT := [
  ⟨.exit 0, 0, ⟨[], [], [], [], [], [], [], []⟩, (((.lt (.var 7) (.var (nLk + 0))), true) :: ((.lt (.var (nLk + 0)) (.lit 0)), false) :: ((.lt (.add (.var 7) (.lit 1)) (.var (nLk + 0))), false) :: ((.lt (.var (nLk + 2)) (.lit 0)), false) :: ((.lt (.var (nLk + 2)) (.lit 18446744073709551616)), true) :: tLwLk32tn1)⟩]
def sLk32tn30 : List SumT := [
  ⟨.ret, 1, ⟨[], [], [], [], [], [], [], []⟩, (((.gb 0 qLwLk32tn3 (.lit 0) (.lit 0)), false) :: tLwLk32tn0)⟩,
  ⟨.ret, 1, ⟨[], [], [], [], [], [], [], []⟩, (((.gb 0 qLwLk32tn4 (.lit 0) (.lit 0)), true) :: ((.gb 0 qLwLk32tn3 (.lit 0) (.lit 0)), true) :: tLwLk32tn0)⟩,
  ⟨.normal, 4, ⟨[((nLk + 20), zLwLk32tn0), ((nLk + 23), 5260135901548373507240989934051954660990865910900270587370912330422587051820107120210445225482813905398191170390721636871505773567605968508517731748188805788082915851227861018118550468355029764155145550305427456), ((nLk + 22), 5260135901548373507240989934051954660990865910900270587370702833423681698740426276069848259137072040307244414244194706223947621004636069337005202462279947922025259103443697173573960563936093098999732524539707392)], [(16, (.gi 10 (.var 1) (.var (nLk + 0)) (.lit 0))), (2, (.var (nLk + 2))), (21, (.var zLwLk32tn0)), (13, (.lit 0)), (12, (.wrap .u64 (.add (.var (nLk + 2)) (.var 1)))), (11, (.add (.add (.var 0) (.lit 2)) (.mul (.lit 2) (.bits 0 .u64 (.var (nLk + 2)) (.sub (.var 1) (.lit 1)))))), (10, (.lit 2)), (0, (.add (.var (nLk + 0)) (.lit 1)))], [], [], [], [((.cons (.gi 10 (.var 1) (.var (nLk + 0)) (.lit 0)) .nil), (.cons (.var (nLk + 16)) .nil))], [], []⟩, (((.lt (.var zLwLk32tn0) (.lit 1)), false) :: ((.lt (.var (nLk + 0)) (.var 7)), true) :: ((.gb 0 qLwLk32tn4 (.lit 0) (.lit 0)), false) :: ((.gb 0 qLwLk32tn3 (.lit 0) (.lit 0)), true) :: tLwLk32tn0)⟩,
  ⟨.normal, 3, ⟨[], [(2, (.var (nLk + 2))), (13, (.var (nLk + 13))), (12, (.var (nLk + 12))), (11, (.var (nLk + 11))), (10, (.var (nLk + 10))), (0, (.add (.var (nLk + 0)) (.lit 1)))], [], [], [], [], [], []⟩, (((.lt (.var (nLk + 0)) (.var 7)), false) :: ((.gb 0 qLwLk32tn4 (.lit 0) (.lit 0)), false) :: ((.gb 0 qLwLk32tn3 (.lit 0) (.lit 0)), true) :: tLwLk32tn0)⟩]
def sLk32tn31 : List SumT := [
  ⟨.exit 0, 0, ⟨[], [], [], [], [], [], [], []⟩, (((.lt (.var 7) (.var (nLk + 0))), true) :: ((.lt (.var (nLk + 0)) (.lit 0)), false) :: ((.lt (.add (.var 7) (.lit 1)) (.var (nLk + 0))), false) :: ((.lt (.var (nLk + 2)) (.lit 0)), false) :: ((.lt (.var (nLk + 2)) (.lit 18446744073709551616)), true) :: tLwLk32tn1)⟩]
def sLk32tn40 : List SumT := [
  ⟨.ret, 1, ⟨[], [], [], [], [], [], [], []⟩, (((.lt (.var (nLk + 21)) (.lit 1)), false) :: ((.gb 0 qLwLk32tn3 (.lit 0) (.lit 0)), false) :: ((.lt (.var 7) (.var (nLk + 0))), false) :: ((.eq (.var (nLk + 10)) (.gi 15 (.var 2) (.mul (.var (nLk + 0)) (.lit 10)) (.lit 0))), true) :: ((.eq (.var (nLk + 11)) (.gi 15 (.var 2) (.mul (.var (nLk + 0)) (.lit 10)) (.lit 1))), true) :: ((.eq (.var (nLk + 12)) (.gi 15 (.var 2) (.mul (.var (nLk + 0)) (.lit 10)) (.lit 2))), true) :: ((.eq (.var (nLk + 13)) (.gi 15 (.var 2) (.mul (.var (nLk + 0)) (.lit 10)) (.lit 3))), true) :: ((.same (.lit true) (.gb 0 qLwLk32tn3 (.lit 0) (.lit 0))), true) :: ((.same (.lit false) (.gb 0 qLwLk32tn4 (.lit 0) (.lit 0))), true) :: ((.gb 0 qLwLk32tn5 (.lit 0) (.lit 0)), true) :: ((.lt (.var (nLk + 0)) (.lit 0)), false) :: ((.lt (.add (.var 7) (.lit 1)) (.var (nLk + 0))), false) :: ((.lt (.var (nLk + 2)) (.lit 0)), false) :: ((.lt (.var (nLk + 2)) (.lit 18446744073709551616)), true) :: tLwLk32tn1)⟩,
  ⟨.ret, 1, ⟨[], [], [], [], [], [], [], []⟩, (((.lt (.var (nLk + 21)) (.lit 1)), false) :: ((.gb 0 qLwLk32tn4 (.lit 0) (.lit 0)), true) :: ((.gb 0 qLwLk32tn3 (.lit 0) (.lit 0)), true) :: ((.lt (.var 7) (.var (nLk + 0))), false) :: ((.eq (.var (nLk + 10)) (.gi 15 (.var 2) (.mul (.var (nLk + 0)) (.lit 10)) (.lit 0))), true) :: ((.eq (.var (nLk + 11)) (.gi 15 (.var 2) (.mul (.var (nLk + 0)) (.lit 10)) (.lit 1))), true) :: ((.eq (.var (nLk + 12)) (.gi 15 (.var 2) (.mul (.var (nLk + 0)) (.lit 10)) (.lit 2))), true) :: ((.eq (.var (nLk + 13)) (.gi 15 (.var 2) (.mul (.var (nLk + 0)) (.lit 10)) (.lit 3))), true) :: ((.same (.lit true) (.gb 0 qLwLk32tn3 (.lit 0) (.lit 0))), true) :: ((.same (.lit false) (.gb 0 qLwLk32tn4 (.lit 0) (.lit 0))), true) :: ((.gb 0 qLwLk32tn5 (.lit 0) (.lit 0)), true) :: ((.lt (.var (nLk + 0)) (.lit 0)), false) :: ((.lt (.add (.var 7) (.lit 1)) (.var (nLk + 0))), false) :: ((.lt (.var (nLk + 2)) (.lit 0)), false) :: ((.lt (.var (nLk + 2)) (.lit 18446744073709551616)), true) :: tLwLk32tn1)⟩,
  ⟨.normal, 5, ⟨[], [(15, (.var (nLk + 16))), (14, (.lit 0)), (13, (.var (nLk + 13))), (12, (.var (nLk + 12))), (11, (.var (nLk + 11))), (10, (.var (nLk + 10))), (0, (.add (.var (nLk + 0)) (.lit 1)))], [], [], [], [], [], []⟩, (((.lt (.var (nLk + 21)) (.lit 1)), false) :: ((.lt (.var zLwLk32tn1) (.lit 1)), false) :: ((.lt (.var (nLk + 0)) (.var 7)), true) :: ((.gb 0 qLwLk32tn4 (.lit 0) (.lit 0)), false) :: ((.gb 0 qLwLk32tn3 (.lit 0) (.lit 0)), true) :: ((.lt (.var 7) (.var (nLk + 0))), false) :: ((.eq (.var (nLk + 10)) (.gi 15 (.var 2) (.mul (.var (nLk + 0)) (.lit 10)) (.lit 0))), true) :: ((.eq (.var (nLk + 11)) (.gi 15 (.var 2) (.mul (.var (nLk + 0)) (.lit 10)) (.lit 1))), true) :: ((.eq (.var (nLk + 12)) (.gi 15 (.var 2) (.mul (.var (nLk + 0)) (.lit 10)) (.lit 2))), true) :: ((.eq (.var (nLk + 13)) (.gi 15 (.var 2) (.mul (.var (nLk + 0)) (.lit 10)) (.lit 3))), true) :: ((.same (.lit true) (.gb 0 qLwLk32tn3 (.lit 0) (.lit 0))), true) :: ((.same (.lit false) (.gb 0 qLwLk32tn4 (.lit 0) (.lit 0))), true) :: ((.gb 0 qLwLk32tn5 (.lit 0) (.lit 0)), true) :: ((.lt (.var (nLk + 0)) (.lit 0)), false) :: ((.lt (.add (.var 7) (.lit 1)) (.var (nLk + 0))), false) :: ((.lt (.var (nLk + 2)) (.lit 0)), false) :: ((.lt (.var (nLk + 2)) (.lit 18446744073709551616)), true) :: tLwLk32tn1)⟩,
  ⟨.normal, 4, ⟨[((nLk + 20), (nLk + 20)), ((nLk + 23), (nLk + 23)), ((nLk + 22), (nLk + 22))], [(16, (.var (nLk + 16))), (2, (.var (nLk + 2))), (21, (.var (nLk + 21))), (13, (.var (nLk + 13))), (12, (.var (nLk + 12))), (11, (.var (nLk + 11))), (10, (.var (nLk + 10))), (0, (.add (.var (nLk + 0)) (.lit 1)))], [], [], [], [((.cons (.var (nLk + 16)) .nil), (.cons (.var (nLk + 16)) .nil))], [], []⟩, (((.lt (.var (nLk + 21)) (.lit 1)), false) :: ((.lt (.var zLwLk32tn1) (.lit 1)), false) :: ((.lt (.var (nLk + 0)) (.var 7)), false) :: ((.gb 0 qLwLk32tn4 (.lit 0) (.lit 0)), false) :: ((.gb 0 qLwLk32tn3 (.lit 0) (.lit 0)), true) :: ((.lt (.var 7) (.var (nLk + 0))), false) :: ((.eq (.var (nLk + 10)) (.gi 15 (.var 2) (.mul (.var (nLk + 0)) (.lit 10)) (.lit 0))), true) :: ((.eq (.var (nLk + 11)) (.gi 15 (.var 2) (.mul (.var (nLk + 0)) (.lit 10)) (.lit 1))), true) :: ((.eq (.var (nLk + 12)) (.gi 15 (.var 2) (.mul (.var (nLk + 0)) (.lit 10)) (.lit 2))), true) :: ((.eq (.var (nLk + 13)) (.gi 15 (.var 2) (.mul (.var (nLk + 0)) (.lit 10)) (.lit 3))), true) :: ((.same (.lit true) (.gb 0 qLwLk32tn3 (.lit 0) (.lit 0))), true) :: ((.same (.lit false) (.gb 0 qLwLk32tn4 (.lit 0) (.lit 0))), true) :: ((.gb 0 qLwLk32tn5 (.lit 0) (.lit 0)), true) :: ((.lt (.var (nLk + 0)) (.lit 0)), false) :: ((.lt (.add (.var 7) (.lit 1)) (.var (nLk + 0))), false) :: ((.lt (.var (nLk + 2)) (.lit 0)), false) :: ((.lt (.var (nLk + 2)) (.lit 18446744073709551616)), true) :: tLwLk32tn1)⟩]
def sLk32tn41 : List SumT := [
  ⟨.exit 0, 0, ⟨[], [], [], [], [], [], [], []⟩, (((.lt (.var (nLk + 21)) (.lit 1)), false) :: ((.lt (.var 7) (.var (nLk + 0))), true) :: ((.lt (.var (nLk + 0)) (.lit 0)), false) :: ((.lt (.add (.var 7) (.lit 1)) (.var (nLk + 0))), false) :: ((.lt (.var (nLk + 2)) (.lit 0)), false) :: ((.lt (.var (nLk + 2)) (.lit 18446744073709551616)), true) :: tLwLk32tn1)⟩]
def sLk32tn50 : List SumT := [
  ⟨.ret, 1, ⟨[], [], [], [], [], [], [], []⟩, (((.gb 0 qLwLk32tn3 (.lit 0) (.lit 0)), true) :: ((.lt (.var 7) (.var (nLk + 0))), false) :: ((.eq (.lit 0) (.gi 15 (.var 2) (.mul (.var (nLk + 0)) (.lit 10)) (.lit 0))), true) :: ((.eq (.lit 0) (.gi 15 (.var 2) (.mul (.var (nLk + 0)) (.lit 10)) (.lit 1))), true) :: ((.eq (.lit 0) (.gi 15 (.var 2) (.mul (.var (nLk + 0)) (.lit 10)) (.lit 2))), true) :: ((.eq (.lit 0) (.gi 15 (.var 2) (.mul (.var (nLk + 0)) (.lit 10)) (.lit 3))), true) :: ((.same (.lit false) (.gb 0 qLwLk32tn3 (.lit 0) (.lit 0))), true) :: ((.same (.lit true) (.gb 0 qLwLk32tn4 (.lit 0) (.lit 0))), true) :: ((.eq (.var (nLk + 14)) (.gi 15 (.var 2) (.mul (.var (nLk + 0)) (.lit 10)) (.lit 5))), true) :: ((.eq (.var (nLk + 15)) (.gi 15 (.var 2) (.mul (.var (nLk + 0)) (.lit 10)) (.lit 6))), true) :: ((.gb 0 qLwLk32tn6 (.lit 0) (.lit 0)), true) :: ((.gb 0 qLwLk32tn2 (.lit 0) (.lit 0)), true) :: ((.lt (.var (nLk + 0)) (.lit 0)), false) :: ((.lt (.add (.var 7) (.lit 1)) (.var (nLk + 0))), false) :: tLwLk32tn1)⟩,
  ⟨.ret, 1, ⟨[], [], [], [], [], [], [], []⟩, (((.gb 0 qLwLk32tn4 (.lit 0) (.lit 0)), false) :: ((.gb 0 qLwLk32tn3 (.lit 0) (.lit 0)), false) :: ((.lt (.var 7) (.var (nLk + 0))), false) :: ((.eq (.lit 0) (.gi 15 (.var 2) (.mul (.var (nLk + 0)) (.lit 10)) (.lit 0))), true) :: ((.eq (.lit 0) (.gi 15 (.var 2) (.mul (.var (nLk + 0)) (.lit 10)) (.lit 1))), true) :: ((.eq (.lit 0) (.gi 15 (.var 2) (.mul (.var (nLk + 0)) (.lit 10)) (.lit 2))), true) :: ((.eq (.lit 0) (.gi 15 (.var 2) (.mul (.var (nLk + 0)) (.lit 10)) (.lit 3))), true) :: ((.same (.lit false) (.gb 0 qLwLk32tn3 (.lit 0) (.lit 0))), true) :: ((.same (.lit true) (.gb 0 qLwLk32tn4 (.lit 0) (.lit 0))), true) :: ((.eq (.var (nLk + 14)) (.gi 15 (.var 2) (.mul (.var (nLk + 0)) (.lit 10)) (.lit 5))), true) :: ((.eq (.var (nLk + 15)) (.gi 15 (.var 2) (.mul (.var (nLk + 0)) (.lit 10)) (.lit 6))), true) :: ((.gb 0 qLwLk32tn6 (.lit 0) (.lit 0)), true) :: ((.gb 0 qLwLk32tn2 (.lit 0) (.lit 0)), true) :: ((.lt (.var (nLk + 0)) (.lit 0)), false) :: ((.lt (.add (.var 7) (.lit 1)) (.var (nLk + 0))), false) :: tLwLk32tn1)⟩,
  ⟨.normal, 5, ⟨[], [(15, (.var (nLk + 15))), (14, (.var (nLk + 14))), (13, (.var (nLk + 13))), (12, (.var (nLk + 12))), (11, (.var (nLk + 11))), (10, (.var (nLk + 10))), (0, (.add (.var (nLk + 0)) (.lit 1)))], [], [], [], [], [], []⟩, (((.lt (.var (nLk + 0)) (.var 7)), true) :: ((.gb 0 qLwLk32tn4 (.lit 0) (.lit 0)), true) :: ((.gb 0 qLwLk32tn3 (.lit 0) (.lit 0)), false) :: ((.lt (.var 7) (.var (nLk + 0))), false) :: ((.eq (.lit 0) (.gi 15 (.var 2) (.mul (.var (nLk + 0)) (.lit 10)) (.lit 0))), true) :: ((.eq (.lit 0) (.gi 15 (.var 2) (.mul (.var (nLk + 0)) (.lit 10)) (.lit 1))), true) :: ((.eq (.lit 0) (.gi 15 (.var 2) (.mul (.var (nLk + 0)) (.lit 10)) (.lit 2))), true) :: ((.eq (.lit 0) (.gi 15 (.var 2) (.mul (.var (nLk + 0)) (.lit 10)) (.lit 3))), true) :: ((.same (.lit false) (.gb 0 qLwLk32tn3 (.lit 0) (.lit 0))), true) :: ((.same (.lit true) (.gb 0 qLwLk32tn4 (.lit 0) (.lit 0))), true) :: ((.eq (.var (nLk + 14)) (.gi 15 (.var 2) (.mul (.var (nLk + 0)) (.lit 10)) (.lit 5))), true) :: ((.eq (.var (nLk + 15)) (.gi 15 (.var 2) (.mul (.var (nLk + 0)) (.lit 10)) (.lit 6))), true) :: ((.gb 0 qLwLk32tn6 (.lit 0) (.lit 0)), true) :: ((.gb 0 qLwLk32tn2 (.lit 0) (.lit 0)), true) :: ((.lt (.var (nLk + 0)) (.lit 0)), false) :: ((.lt (.add (.var 7) (.lit 1)) (.var (nLk + 0))), false) :: tLwLk32tn1)⟩,
  ⟨.normal, 5, ⟨[], [(15, (.var (nLk + 15))), (14, (.var (nLk + 14))), (13, (.var (nLk + 13))), (12, (.var (nLk + 12))), (11, (.var (nLk + 11))), (10, (.var (nLk + 10))), (0, (.add (.var (nLk + 0)) (.lit 1)))], [], [], [], [], [], []⟩, (((.lt (.var (nLk + 0)) (.var 7)), false) :: ((.gb 0 qLwLk32tn4 (.lit 0) (.lit 0)), true) :: ((.gb 0 qLwLk32tn3 (.lit 0) (.lit 0)), false) :: ((.lt (.var 7) (.var (nLk + 0))), false) :: ((.eq (.lit 0) (.gi 15 (.var 2) (.mul (.var (nLk + 0)) (.lit 10)) (.lit 0))), true) :: ((.eq (.lit 0) (.gi 15 (.var 2) (.mul (.var (nLk + 0)) (.lit 10)) (.lit 1))), true) :: ((.eq (.lit 0) (.gi 15 (.var 2) (.mul (.var (nLk + 0)) (.lit 10)) (.lit 2))), true) :: ((.eq (.lit 0) (.gi 15 (.var 2) (.mul (.var (nLk + 0)) (.lit 10)) (.lit 3))), true) :: ((.same (.lit false) (.gb 0 qLwLk32tn3 (.lit 0) (.lit 0))), true) :: ((.same (.lit true) (.gb 0 qLwLk32tn4 (.lit 0) (.lit 0))), true) :: ((.eq (.var (nLk + 14)) (.gi 15 (.var 2) (.mul (.var (nLk + 0)) (.lit 10)) (.lit 5))), true) :: ((.eq (.var (nLk + 15)) (.gi 15 (.var 2) (.mul (.var (nLk + 0)) (.lit 10)) (.lit 6))), true) :: ((.gb 0 qLwLk32tn6 (.lit 0) (.lit 0)), true) :: ((.gb 0 qLwLk32tn2 (.lit 0) (.lit 0)), true) :: ((.lt (.var (nLk + 0)) (.lit 0)), false) :: ((.lt (.add (.var 7) (.lit 1)) (.var (nLk + 0))), false) :: tLwLk32tn1)⟩]
def sLk32tn51 : List SumT := [
  ⟨.exit 0, 0, ⟨[], [], [], [], [], [], [], []⟩, (((.lt (.var 7) (.var (nLk + 0))), true) :: ((.lt (.var (nLk + 0)) (.lit 0)), false) :: ((.lt (.add (.var 7) (.lit 1)) (.var (nLk + 0))), false) :: tLwLk32tn1)⟩]
theorem pcLk32tn_eq : (eLk32 Try.prog false false).pc = pcLk32tn := by kernel_rfl
theorem avLk32tn : pav nLk (nLk + 64) pcLk32tn = true := by kernel_rfl
theorem stLk32tn_ok : mAll nLk 0 0 Try.prog (eLk32 Try.prog false false).fr (eLk32 Try.prog false false).hp (hdLk32 Try.prog false false 0).fr (hdLk32 Try.prog false false 0).hp = some stLk32tn := by kernel_rfl
theorem oneLk32tn : (loopsAt Try.prog fLk 4).length = 1 := by kernel_rfl
theorem bLk32tn00 : sumsLk32 Try.prog false false 0 0 = some sLk32tn00 := by kernel_rfl
theorem bLk32tn01 : sumsLk32 Try.prog false false 0 1 = some sLk32tn01 := by kernel_rfl
theorem bLk32tn10 : sumsLk32 Try.prog false false 1 0 = some sLk32tn10 := by kernel_rfl
theorem bLk32tn11 : sumsLk32 Try.prog false false 1 1 = some sLk32tn11 := by kernel_rfl
theorem bLk32tn20 : sumsLk32 Try.prog false false 2 0 = some sLk32tn20 := by kernel_rfl
theorem bLk32tn21 : sumsLk32 Try.prog false false 2 1 = some sLk32tn21 := by kernel_rfl
theorem bLk32tn30 : sumsLk32 Try.prog false false 3 0 = some sLk32tn30 := by kernel_rfl
theorem bLk32tn31 : sumsLk32 Try.prog false false 3 1 = some sLk32tn31 := by kernel_rfl
theorem bLk32tn40 : sumsLk32 Try.prog false false 4 0 = some sLk32tn40 := by kernel_rfl
theorem bLk32tn41 : sumsLk32 Try.prog false false 4 1 = some sLk32tn41 := by kernel_rfl
theorem bLk32tn50 : sumsLk32 Try.prog false false 5 0 = some sLk32tn50 := by kernel_rfl
theorem bLk32tn51 : sumsLk32 Try.prog false false 5 1 = some sLk32tn51 := by kernel_rfl
theorem hLk32tn0 : (hdLk32 Try.prog false false 0).pc = basLk ++ u64C (.var (nLk + 2)) ++ pcLk32tn := by kernel_rfl
theorem hLk32tn1 : (hdLk32 Try.prog false false 1).pc = basLk ++ u64C (.var (nLk + 2)) ++ pcLk32tn := by kernel_rfl
theorem hLk32tn2 : (hdLk32 Try.prog false false 2).pc = basLk ++ u64C (.var (nLk + 2)) ++ pcLk32tn := by kernel_rfl
theorem hLk32tn3 : (hdLk32 Try.prog false false 3).pc = basLk ++ u64C (.var (nLk + 2)) ++ pcLk32tn := by kernel_rfl
theorem hLk32tn4 : (hdLk32 Try.prog false false 4).pc = basLk ++ u64C (.var (nLk + 2)) ++ pcLk32tn := by kernel_rfl
theorem hLk32tn5 : (hdLk32 Try.prog false false 5).pc = basLk ++ pcLk32tn := by kernel_rfl
end Go.Proofs.Ytlmenjenkpnacaa
end

section
namespace Go.Proofs.Ytlmenjenkpnacaa
open Go Go.Sy Go.RowKit

theorem oL3_ok32tn : OOK Try.prog (oL3 Try.prog) inM := pruned_ok pr (sameN_ok (opCap_ok (opLoadSt_ok (opAppS_ok (opLoadS_ok (opNilZ_ok (opAppendR_ok pr (opAppendW_ok (opSliceV_ok pr (opSliceT_ok qO_ok))))))))))
structure FLk32tn (ν : Env Gh) : Prop where
  len0 : 0 ≤ ν.i 7
  len1 : ν.i 7 ≤ 200
  told : ∀ j, 0 ≤ (tolds (ν.g 1).t j).1 ∧ (tolds (ν.g 1).t j).1 < 18446744073709551616
  seen : nG (ν.g 2) = (se32 (ν.i 0) (ν.i 1) false (b32 false false ν) (ν.g 1).t (ν.i 7 + 1).toNat).map SC.nums
  a0 : 0 ≤ ν.i 0
  a1 : ν.i 0 < 65535 - 2 * ν.i 1
  n1 : 2 ≤ ν.i 1
  n2 : ν.i 1 ≤ 256
  pw : Pow (ν.i 1)
theorem factsLk32tn {ν : Env Gh} (hI : ν.I = inM) (h : pcDen ν pcLk32tn) : FLk32tn ν := by
  have h2 := h
  simp only [pcLk32tn, qLwLk32tn0, tLwLk32tn1, qLwLk32tn1, pcDen_cons_iff, pcDen_nil_iff] at h2
  have h8 : (SB.gb 0 (.app 83 (.var 1) (.var 0) (.lit 0) (.lit 0) (.lit 0) (.lit 0) .nil) (.lit 0) (.lit 0)).den ν = true := pcAt h 10 rfl
  rw [x83 hI] at h8
  have h0 : (seen32B 2 (begL32 false false)).den ν = true := pcAt h 0 rfl
  simp only [seen32B, SB.den, SG.den, SI.den, hI, inM, xga, SL.den] at h0
  have h1 : (nG (ν.g 2) == List.map SC.nums (seen32 ((begL32 false false).den ν) (ν.g 1).t (ν.i 7 + 1).toNat)) = true := h0
  rw [se32_lk] at h1
  have hpw : (powB (.var 1)).den ν = true := pcAt h 6 rfl
  rw [powB_den] at hpw
  have h3 := h2.2.2
  simp only [SB.den, decide_eq_true_eq, decide_eq_false_iff_not] at h3
  simp only [SI.den] at h3
  exact ⟨by omega, by omega, fun j => tolds_u64 h8 j, eq_of_beq h1, by omega, by omega, by omega, by omega, hpw⟩
attribute [local irreducible] nmAt
theorem hpdLk32tn {ν : Env Gh} (hI : ν.I = inM) (h : pcDen ν pcLk32tn) {k : Nat} (hk : k < 6) {x : Vals Gh} (hJ : JL32 false false k ν x) : pcDen (ν.at nLk x) (hdLk32 Try.prog false false k).pc := by
  have rf : RF nLk ν x (ν.at nLk x) := RF.self rfl
  have F := factsLk32tn hI h
  have F0 := F.len0
  have F1 := F.len1
  have hold : pcDen (ν.at nLk x) pcLk32tn := pcDen_agree (at_agree (ρ := fun _ => 0) (ρ' := fun _ => 0) (fun _ _ => rfl)) avLk32tn h
  have r0 : (ν.at nLk x).i nLk = x.i 0 := rf.i 0 (by decide)
  obtain ⟨j0, j1, j2⟩ := hJ
  have hbas : pcDen (ν.at nLk x) basLk := by
    refine pcDen_cons (lt_of ?_) (pcDen_one (lt_of ?_))
    · simp only [SI.den, r0, Bool.false_eq_true, iff_false]; omega
    · simp only [SI.den, r0, rf.io 7 (by decide), Bool.false_eq_true, iff_false]; omega
  match k, hk with
  | 0, _ =>
    obtain ⟨_, _, u0, u1, _⟩ := j2
    rw [hLk32tn0]
    refine pcDen_append (pcDen_append hbas (pcDen_cons (lt_of ?_) (pcDen_one (lt_of ?_)))) hold
    · simp only [SI.den, rf.i 2 (by decide), Bool.false_eq_true, iff_false]; omega
    · simp only [SI.den, rf.i 2 (by decide), iff_true]; omega
  | 1, _ =>
    obtain ⟨_, _, u0, u1, _⟩ := j2
    rw [hLk32tn1]
    refine pcDen_append (pcDen_append hbas (pcDen_cons (lt_of ?_) (pcDen_one (lt_of ?_)))) hold
    · simp only [SI.den, rf.i 2 (by decide), Bool.false_eq_true, iff_false]; omega
    · simp only [SI.den, rf.i 2 (by decide), iff_true]; omega
  | 2, _ =>
    obtain ⟨_, _, u0, u1, _⟩ := j2
    rw [hLk32tn2]
    refine pcDen_append (pcDen_append hbas (pcDen_cons (lt_of ?_) (pcDen_one (lt_of ?_)))) hold
    · simp only [SI.den, rf.i 2 (by decide), Bool.false_eq_true, iff_false]; omega
    · simp only [SI.den, rf.i 2 (by decide), iff_true]; omega
  | 3, _ =>
    obtain ⟨_, _, u0, u1, _⟩ := j2
    rw [hLk32tn3]
    refine pcDen_append (pcDen_append hbas (pcDen_cons (lt_of ?_) (pcDen_one (lt_of ?_)))) hold
    · simp only [SI.den, rf.i 2 (by decide), Bool.false_eq_true, iff_false]; omega
    · simp only [SI.den, rf.i 2 (by decide), iff_true]; omega
  | 4, _ =>
    obtain ⟨_, _, u0, u1, _⟩ := j2
    rw [hLk32tn4]
    refine pcDen_append (pcDen_append hbas (pcDen_cons (lt_of ?_) (pcDen_one (lt_of ?_)))) hold
    · simp only [SI.den, rf.i 2 (by decide), Bool.false_eq_true, iff_false]; omega
    · simp only [SI.den, rf.i 2 (by decide), iff_true]; omega
  | 5, _ => rw [hLk32tn5]; exact pcDen_append hbas hold
theorem nxLk32tn {ν : Env Gh} (hI : ν.I = inM) (h : pcDen ν pcLk32tn) {x y : Vals Gh} {k : Nat} (hk : k < 6) {g : Tgt} (hg : (headsLk32 Try.prog false false)[k]? = some g) (j0 : 0 ≤ x.i 0) (hle : x.i 0 ≤ ν.i 7) (y0 : y.i 0 = x.i 0 + 1)
    (hS : JS32 false (if false then 5 else k) ν (if x.i 0 < ν.i 7 then A32.step false (it32 false (b32 false false ν) (ν.g 1).t (x.i 0).toNat) (tolds (ν.g 1).t (x.i 0).toNat).1 (tolds (ν.g 1).t (x.i 0).toNat).2 else it32 false (b32 false false ν) (ν.g 1).t (x.i 0).toNat) y) {Ow : Prop} (ho : Ow) :
    JL32 false false k ν y ∧ pcDen (ν.at nLk y) g.pc ∧ (ν.i 7 + 2 - y.i 0).toNat < (ν.i 7 + 2 - x.i 0).toNat ∧ Ow := by
  have hJ : JL32 false false k ν y := by
    refine ⟨by omega, by omega, ?_⟩
    rw [y0, it32_next _ _ _ j0 hle]
    exact hS
  have e : g = hdLk32 Try.prog false false k := by unfold hdLk32 hdAt; rw [hg]; rfl
  refine ⟨hJ, ?_, by omega, ho⟩
  rw [e]
  exact hpdLk32tn hI h hk hJ
theorem loopLk32tn {O' : Orac} (oo' : OOK Try.prog O' inM) : OOK Try.prog (O'.withLoop fLk 4 nLk (eLk32 Try.prog false false).fr (eLk32 Try.prog false false).hp (mkM nLk (gLk (eLk32 Try.prog false false).fr) (bdLk32 Try.prog false false))) inM := by
  have hb : ∀ {ν : Env Gh}, (∀ x ∈ bdLk32 Try.prog false false, x.1.den ν ≠ x.2) → pcDen ν pcLk32tn := fun h => by unfold bdLk32 at h; rw [pcLk32tn_eq] at h; exact bads_of h
  refine loopC_ok pr oL3_ok32tn (rfl : nLk = nmAt 4) (by decide +kernel) oneLk32tn (heads := headsLk32 Try.prog false false) (tg := gLk (eLk32 Try.prog false false).fr) (sums := [[(caseA .nil, sLk32tn00), (caseB, sLk32tn01)], [(caseA .nil, sLk32tn10), (caseB, sLk32tn11)], [(caseA .nil, sLk32tn20), (caseB, sLk32tn21)], [(caseA .nil, sLk32tn30), (caseB, sLk32tn31)], [(caseA (.cons (.var (nLk + 16)) .nil), sLk32tn40), (caseB, sLk32tn41)], [(caseE, sLk32tn50), (caseB, sLk32tn51)]]) (start := stLk32tn) (h0 := hdLk32 Try.prog false false 0) (n := 6000) (it := 0) (ghL []) rfl ?_ rfl stLk32tn_ok (JL32 false false) (fun _ ν x => (ν.i 7 + 2 - x.i 0).toNat) ?_ ?_ ?_ oo'
  · intro i h ss hh hs c hc
    match i, hh, hs with
    | 0, hh, hs =>
      cases hs
      have e : h = hdLk32 Try.prog false false 0 := by unfold hdLk32 hdAt; rw [hh]; rfl
      subst e
      simp only [List.mem_cons, List.not_mem_nil, or_false] at hc
      rcases hc with rfl | rfl
      · exact bLk32tn00
      · exact bLk32tn01
    | 1, hh, hs =>
      cases hs
      have e : h = hdLk32 Try.prog false false 1 := by unfold hdLk32 hdAt; rw [hh]; rfl
      subst e
      simp only [List.mem_cons, List.not_mem_nil, or_false] at hc
      rcases hc with rfl | rfl
      · exact bLk32tn10
      · exact bLk32tn11
    | 2, hh, hs =>
      cases hs
      have e : h = hdLk32 Try.prog false false 2 := by unfold hdLk32 hdAt; rw [hh]; rfl
      subst e
      simp only [List.mem_cons, List.not_mem_nil, or_false] at hc
      rcases hc with rfl | rfl
      · exact bLk32tn20
      · exact bLk32tn21
    | 3, hh, hs =>
      cases hs
      have e : h = hdLk32 Try.prog false false 3 := by unfold hdLk32 hdAt; rw [hh]; rfl
      subst e
      simp only [List.mem_cons, List.not_mem_nil, or_false] at hc
      rcases hc with rfl | rfl
      · exact bLk32tn30
      · exact bLk32tn31
    | 4, hh, hs =>
      cases hs
      have e : h = hdLk32 Try.prog false false 4 := by unfold hdLk32 hdAt; rw [hh]; rfl
      subst e
      simp only [List.mem_cons, List.not_mem_nil, or_false] at hc
      rcases hc with rfl | rfl
      · exact bLk32tn40
      · exact bLk32tn41
    | 5, hh, hs =>
      cases hs
      have e : h = hdLk32 Try.prog false false 5 := by unfold hdLk32 hdAt; rw [hh]; rfl
      subst e
      simp only [List.mem_cons, List.not_mem_nil, or_false] at hc
      rcases hc with rfl | rfl
      · exact bLk32tn50
      · exact bLk32tn51
    | m + 6, hh, hs => cases hs
  · intro ν hI hbd
    have hp' := hb hbd
    have F := factsLk32tn hI hp'
    have F0 := F.len0
    generalize hy : stLk32tn.vals (ghL []) ν = y
    have y0 : y.i 0 = 0 := by rw [← hy]; simp only [stLk32tn, Mt.vals, lkp_cons, lkp_nil, Nat.reduceEqDiff, reduceIte, SI.den]
    have hJ : JL32 false false 0 ν y := by
      refine ⟨by omega, by omega, ?_⟩
      have em : (min (y.i 0) (ν.i 7)).toNat = 0 := by omega
      rw [em]
      simp only [← hy]
      simp [JS32, stLk32tn, Mt.vals, lkp_cons, lkp_nil, SI.den, it32, iterS, b32, wnt32]
    exact ⟨hJ, hpdLk32tn hI hp' (by decide) hJ, by constructor <;> simp [stLk32tn]⟩
  · intro i h ss hh hs ν x hI hbd hJ _
    have hp' := hb hbd
    have F := factsLk32tn hI hp'
    have F0 := F.len0
    have rf : RF nLk ν x (ν.at nLk x) := RF.self rfl
    have r0 : (ν.at nLk x).i nLk = x.i 0 := rf.i 0 (by decide)
    have r7 : (ν.at nLk x).i 7 = ν.i 7 := rf.io 7 (by decide)
    have r3 : (ν.at nLk x).i 3 = ν.i 3 := rf.io 3 (by decide)
    have r16 : (ν.at nLk x).i (nLk + 16) = x.i 16 := rf.i 16 (by decide)
    obtain ⟨j0, j1, j2⟩ := hJ
    by_cases hle : x.i 0 ≤ ν.i 7
    · have em : (min (x.i 0) (ν.i 7)).toNat = (x.i 0).toNat := by omega
      rw [em] at j2
      have hr : ∀ j : Int, 0 ≤ j → j < 10 → (getC ((ν.at nLk x).g 2).s ((ν.at nLk x).i nLk * 10 + j)).x = (getC (A32.obs (ν.i 0) (ν.i 1) false (it32 false (b32 false false ν) (ν.g 1).t (x.i 0).toNat)) j).x ∧ (getC ((ν.at nLk x).g 2).s ((ν.at nLk x).i nLk * 10 + j)).l = (getC (A32.obs (ν.i 0) (ν.i 1) false (it32 false (b32 false false ν) (ν.g 1).t (x.i 0).toNat)) j).l := fun j a b => by
        rw [rf.go 2 (by decide), r0]
        exact rows32R F.seen j0 (by omega) j a b
      match i, hs with
      | 0, hs =>
        cases hs
        obtain ⟨d1, d2, d3, d4, d5, d6, d7, d8⟩ := j2
        refine ⟨_, List.mem_cons_self .., caseA_den (rf.I.trans hI) hr rfl (by rw [r0, r7]; exact hle) ?_⟩
        rw [obs32_live d1, d8, rf.i 10 (by decide), rf.i 11 (by decide), rf.i 12 (by decide), rf.i 13 (by decide)]
        simp [hel32, d2, SL.den, SI.den, r3, r16]
      | 1, hs =>
        cases hs
        obtain ⟨d1, d2, d3, d4, d5, d6, d7, d8⟩ := j2
        refine ⟨_, List.mem_cons_self .., caseA_den (rf.I.trans hI) hr rfl (by rw [r0, r7]; exact hle) ?_⟩
        rw [obs32_live d1, d8, rf.i 10 (by decide), rf.i 11 (by decide), rf.i 12 (by decide), rf.i 13 (by decide)]
        simp [hel32, d2, SL.den, SI.den, r3, r16]
      | 2, hs =>
        cases hs
        obtain ⟨d1, d2, d3, d4, d5, d6, d7, d8⟩ := j2
        refine ⟨_, List.mem_cons_self .., caseA_den (rf.I.trans hI) hr rfl (by rw [r0, r7]; exact hle) ?_⟩
        rw [obs32_live d1, d8, rf.i 10 (by decide), rf.i 11 (by decide), rf.i 12 (by decide), rf.i 13 (by decide)]
        simp [hel32, d2, SL.den, SI.den, r3, r16]
      | 3, hs =>
        cases hs
        obtain ⟨d1, d2, d3, d4, d5, d6, d7, d8⟩ := j2
        refine ⟨_, List.mem_cons_self .., caseA_den (rf.I.trans hI) hr rfl (by rw [r0, r7]; exact hle) ?_⟩
        rw [obs32_live d1, d8, rf.i 10 (by decide), rf.i 11 (by decide), rf.i 12 (by decide), rf.i 13 (by decide)]
        simp [hel32, d2, SL.den, SI.den, r3, r16]
      | 4, hs =>
        cases hs
        obtain ⟨d1, d2, d3, d4, d5, d6, d7, d8⟩ := j2
        refine ⟨_, List.mem_cons_self .., caseA_den (rf.I.trans hI) hr rfl (by rw [r0, r7]; exact hle) ?_⟩
        rw [obs32_live d1, d8, rf.i 10 (by decide), rf.i 11 (by decide), rf.i 12 (by decide), rf.i 13 (by decide)]
        simp [hel32, d2, SL.den, SI.den, r3, r16, d7]
      | 5, hs =>
        cases hs
        obtain ⟨d1, d2, d3⟩ := j2
        refine ⟨_, List.mem_cons_self .., caseE_den (rf.I.trans hI) hr (by rw [r0, r7]; exact hle) ?_⟩
        rw [obs32_dead d1, d2, d3, rf.i 14 (by decide), rf.i 15 (by decide)]
      | m + 6, hs => cases hs
    · have hB : pcDen (ν.at nLk x) caseB := pcDen_one (lt_of (by simp only [SI.den, r0, r7, iff_true]; omega))
      match i, hs with
      | 0, hs => cases hs; exact ⟨_, List.mem_cons_of_mem _ (List.mem_cons_self ..), hB⟩
      | 1, hs => cases hs; exact ⟨_, List.mem_cons_of_mem _ (List.mem_cons_self ..), hB⟩
      | 2, hs => cases hs; exact ⟨_, List.mem_cons_of_mem _ (List.mem_cons_self ..), hB⟩
      | 3, hs => cases hs; exact ⟨_, List.mem_cons_of_mem _ (List.mem_cons_self ..), hB⟩
      | 4, hs => cases hs; exact ⟨_, List.mem_cons_of_mem _ (List.mem_cons_self ..), hB⟩
      | 5, hs => cases hs; exact ⟨_, List.mem_cons_of_mem _ (List.mem_cons_self ..), hB⟩
      | m + 6, hs => cases hs
  · intro i h ss hh hs c hc t ht ν x ν2 hI hbd hJ hpch _ rf hpc
    have hp' := hb hbd
    have F := factsLk32tn hI hp'
    have F0 := F.len0
    have F1 := F.len1
    have F_len0 := F.len0
    have F_len1 := F.len1
    have F_a0 := F.a0
    have F_a1 := F.a1
    have F_n1 := F.n1
    have F_n2 := F.n2
    have F_pw := F.pw
    have hI2 : ν2.I = inM := rf.I.trans hI
    have qa : ν2.i 0 = ν.i 0 := rf.io 0 (by decide)
    have qn : ν2.i 1 = ν.i 1 := rf.io 1 (by decide)
    have qc : ν2.i 3 = ν.i 3 := rf.io 3 (by decide)
    have q7 : ν2.i 7 = ν.i 7 := rf.io 7 (by decide)
    have qg : ν2.g 1 = ν.g 1 := rf.go 1 (by decide)
    have q0 : ν2.i (nLk + 0) = x.i 0 := rf.i 0 (by decide)
    have q2 : ν2.i (nLk + 2) = x.i 2 := rf.i 2 (by decide)
    have q10 : ν2.i (nLk + 10) = x.i 10 := rf.i 10 (by decide)
    have q11 : ν2.i (nLk + 11) = x.i 11 := rf.i 11 (by decide)
    have q12 : ν2.i (nLk + 12) = x.i 12 := rf.i 12 (by decide)
    have q13 : ν2.i (nLk + 13) = x.i 13 := rf.i 13 (by decide)
    have q14 : ν2.i (nLk + 14) = x.i 14 := rf.i 14 (by decide)
    have q15 : ν2.i (nLk + 15) = x.i 15 := rf.i 15 (by decide)
    have q16 : ν2.i (nLk + 16) = x.i 16 := rf.i 16 (by decide)
    obtain ⟨j0, j1, j2⟩ := hJ
    have T0 := F.told (x.i 0).toNat
    have mkT := mask_modK (tolds (ν.g 1).t (x.i 0).toNat).1 (ν.i 1) F.pw T0.1 T0.2
    match i, hh, hs with
    | 0, hh, hs =>
      cases hs
      simp only [List.mem_cons, List.not_mem_nil, or_false] at hc
      rcases hc with rfl | rfl
      · simp only [sLk32tn00, tLwLk32tn0, qLwLk32tn0, qLwLk32tn1, qLwLk32tn2, qLwLk32tn3, qLwLk32tn4, List.mem_cons, List.not_mem_nil, or_false] at ht
        rcases ht with rfl | rfl | rfl | rfl
        · exfalso
          have e0 := pcAt hpc 0 rfl
          have e1 := pcAt hpc 6 rfl
          simp only [SB.den] at e0 e1
          rw [e0] at e1
          exact absurd e1 (by decide)
        · exfalso
          have e0 := pcAt hpc 0 rfl
          have e1 := pcAt hpc 8 rfl
          simp only [SB.den] at e0 e1
          rw [e0] at e1
          exact absurd e1 (by decide)
        · intro g hg
          dsimp only at hg ⊢
          simp only [pcDen_cons_iff, pcDen_nil_iff, SB.den, decide_eq_true_eq, decide_eq_false_iff_not, beq_iff_eq, beq_eq_false_iff_ne] at hpc
          simp only [SI.den, SG.den, gi10u hI2, gb11u hI2, q7, qn, qa, qg, q0, q2, w64w64, w64s] at hpc
          have hle : x.i 0 ≤ ν.i 7 := by omega
          have em : (min (x.i 0) (ν.i 7)).toNat = (x.i 0).toNat := by omega
          rw [em] at j2
          generalize hy : Mt.vals _ (ghL []) ν2 = y
          have y0 : y.i 0 = x.i 0 + 1 := by rw [← hy]; simp only [Mt.vals, lkp_cons, lkp_nil, Nat.reduceEqDiff, reduceIte, SI.den, q0]
          refine nxLk32tn hI hp' (by decide) hg j0 hle y0 ?_ (by constructor <;> simp)
          generalize it32 false (b32 false false ν) (ν.g 1).t (x.i 0).toNat = S at j2 ⊢
          obtain ⟨st, nn, task, dn', cd, v⟩ := S
          obtain ⟨d1, d2, d3, d4, d5, d6, d7, d8⟩ := j2
          dsimp only at d1 d2 d3 d4 d5 d6 d7 d8
          subst d1
          have d2' : st = 1 := d2
          subst d2'
          have hw := d8
          simp only [wnt32, cond, Prod.mk.injEq] at hw
          simp only [JS32, ← hy, Mt.vals, lkp_cons, lkp_nil, Nat.reduceEqDiff, reduceIte, SI.den, SG.den, gi10u hI2, gb11u hI2, qa, qn, qc, qg, q0, q2, q10, q11, q12, q13, q16, mkT, IntKind.wrap_u64]
          generalize tolds (ν.g 1).t (x.i 0).toNat = T at hpc T0 ⊢
          obtain ⟨tv, tw⟩ := T
          dsimp only at hpc T0 ⊢
          by_cases hlt : x.i 0 < ν.i 7 <;> cases tw <;> first
            | (exfalso; omega)
            | (exfalso; simp at hpc; done)
            | (simp [hlt, A32.step, A32.fin, wnt32]; done)
            | (simp [hlt, A32.step, A32.fin, wnt32] <;> omega)
            | (simp [hlt, A32.step, A32.fin, wnt32]; simp at hw; refine ⟨?_, ?_⟩ <;> omega)
            | (simp only [hlt, A32.step, A32.fin, A32.dist]
               simp
               repeat' split
               all_goals first
                 | (exfalso; omega)
                 | (simp [wnt32]; done)
                 | (simp [wnt32] <;> omega))
        · intro g hg
          dsimp only at hg ⊢
          simp only [pcDen_cons_iff, pcDen_nil_iff, SB.den, decide_eq_true_eq, decide_eq_false_iff_not, beq_iff_eq, beq_eq_false_iff_ne] at hpc
          simp only [SI.den, SG.den, gi10u hI2, gb11u hI2, q7, qn, qa, qg, q0, q2, w64w64, w64s] at hpc
          have hle : x.i 0 ≤ ν.i 7 := by omega
          have em : (min (x.i 0) (ν.i 7)).toNat = (x.i 0).toNat := by omega
          rw [em] at j2
          generalize hy : Mt.vals _ (ghL []) ν2 = y
          have y0 : y.i 0 = x.i 0 + 1 := by rw [← hy]; simp only [Mt.vals, lkp_cons, lkp_nil, Nat.reduceEqDiff, reduceIte, SI.den, q0]
          refine nxLk32tn hI hp' (by decide) hg j0 hle y0 ?_ (by constructor <;> simp)
          generalize it32 false (b32 false false ν) (ν.g 1).t (x.i 0).toNat = S at j2 ⊢
          obtain ⟨st, nn, task, dn', cd, v⟩ := S
          obtain ⟨d1, d2, d3, d4, d5, d6, d7, d8⟩ := j2
          dsimp only at d1 d2 d3 d4 d5 d6 d7 d8
          subst d1
          have d2' : st = 1 := d2
          subst d2'
          have hw := d8
          simp only [wnt32, cond, Prod.mk.injEq] at hw
          simp only [JS32, ← hy, Mt.vals, lkp_cons, lkp_nil, Nat.reduceEqDiff, reduceIte, SI.den, SG.den, gi10u hI2, gb11u hI2, qa, qn, qc, qg, q0, q2, q10, q11, q12, q13, q16, mkT, IntKind.wrap_u64]
          generalize tolds (ν.g 1).t (x.i 0).toNat = T at hpc T0 ⊢
          obtain ⟨tv, tw⟩ := T
          dsimp only at hpc T0 ⊢
          by_cases hlt : x.i 0 < ν.i 7 <;> cases tw <;> first
            | (exfalso; omega)
            | (exfalso; simp at hpc; done)
            | (simp [hlt, A32.step, A32.fin, wnt32]; done)
            | (simp [hlt, A32.step, A32.fin, wnt32] <;> omega)
            | (simp [hlt, A32.step, A32.fin, wnt32]; simp at hw; refine ⟨?_, ?_⟩ <;> omega)
            | (simp only [hlt, A32.step, A32.fin, A32.dist]
               simp
               repeat' split
               all_goals first
                 | (exfalso; omega)
                 | (simp [wnt32]; done)
                 | (simp [wnt32] <;> omega))
      · simp only [sLk32tn01, qLwLk32tn0, tLwLk32tn1, qLwLk32tn1, List.mem_cons, List.not_mem_nil, or_false] at ht
        subst ht
        exact ⟨fun g hg => by cases hg; exact pcDen_nil _, by constructor <;> simp⟩
    | 1, hh, hs =>
      cases hs
      simp only [List.mem_cons, List.not_mem_nil, or_false] at hc
      rcases hc with rfl | rfl
      · simp only [sLk32tn10, tLwLk32tn0, qLwLk32tn0, qLwLk32tn1, qLwLk32tn2, qLwLk32tn3, qLwLk32tn4, List.mem_cons, List.not_mem_nil, or_false] at ht
        rcases ht with rfl | rfl | rfl | rfl | rfl | rfl
        · exfalso
          have e0 := pcAt hpc 0 rfl
          have e1 := pcAt hpc 6 rfl
          simp only [SB.den] at e0 e1
          rw [e0] at e1
          exact absurd e1 (by decide)
        · exfalso
          have e0 := pcAt hpc 0 rfl
          have e1 := pcAt hpc 8 rfl
          simp only [SB.den] at e0 e1
          rw [e0] at e1
          exact absurd e1 (by decide)
        · intro g hg
          dsimp only at hg ⊢
          simp only [pcDen_cons_iff, pcDen_nil_iff, SB.den, decide_eq_true_eq, decide_eq_false_iff_not, beq_iff_eq, beq_eq_false_iff_ne] at hpc
          simp only [SI.den, SG.den, gi10u hI2, gb11u hI2, q7, qn, qa, qg, q0, q2, w64w64, w64s] at hpc
          have hle : x.i 0 ≤ ν.i 7 := by omega
          have em : (min (x.i 0) (ν.i 7)).toNat = (x.i 0).toNat := by omega
          rw [em] at j2
          generalize hy : Mt.vals _ (ghL []) ν2 = y
          have y0 : y.i 0 = x.i 0 + 1 := by rw [← hy]; simp only [Mt.vals, lkp_cons, lkp_nil, Nat.reduceEqDiff, reduceIte, SI.den, q0]
          refine nxLk32tn hI hp' (by decide) hg j0 hle y0 ?_ (by constructor <;> simp)
          generalize it32 false (b32 false false ν) (ν.g 1).t (x.i 0).toNat = S at j2 ⊢
          obtain ⟨st, nn, task, dn', cd, v⟩ := S
          obtain ⟨d1, d2, d3, d4, d5, d6, d7, d8⟩ := j2
          dsimp only at d1 d2 d3 d4 d5 d6 d7 d8
          subst d1
          have d2' : st = 2 := d2
          subst d2'
          have d5' : nn = x.i 2 := d5 (by decide)
          subst d5'
          have mkN := mask_modK (x.i 2) (ν.i 1) F.pw d3 d4
          have hw := d8
          simp only [wnt32, cond, Prod.mk.injEq] at hw
          simp only [JS32, ← hy, Mt.vals, lkp_cons, lkp_nil, Nat.reduceEqDiff, reduceIte, SI.den, SG.den, gi10u hI2, gb11u hI2, qa, qn, qc, qg, q0, q2, q10, q11, q12, q13, q16, mkT, mkN, IntKind.wrap_u64]
          generalize tolds (ν.g 1).t (x.i 0).toNat = T at hpc T0 ⊢
          obtain ⟨tv, tw⟩ := T
          dsimp only at hpc T0 ⊢
          by_cases hlt : x.i 0 < ν.i 7 <;> cases tw <;> first
            | (exfalso; omega)
            | (exfalso; simp at hpc; done)
            | (simp [hlt, A32.step, A32.fin, wnt32]; done)
            | (simp [hlt, A32.step, A32.fin, wnt32] <;> omega)
            | (simp [hlt, A32.step, A32.fin, wnt32]; simp at hw; refine ⟨?_, ?_⟩ <;> omega)
            | (simp only [hlt, A32.step, A32.fin, A32.dist]
               simp
               repeat' split
               all_goals first
                 | (exfalso; omega)
                 | (simp [wnt32]; done)
                 | (simp [wnt32] <;> omega))
        · intro g hg
          dsimp only at hg ⊢
          simp only [pcDen_cons_iff, pcDen_nil_iff, SB.den, decide_eq_true_eq, decide_eq_false_iff_not, beq_iff_eq, beq_eq_false_iff_ne] at hpc
          simp only [SI.den, SG.den, gi10u hI2, gb11u hI2, q7, qn, qa, qg, q0, q2, w64w64, w64s] at hpc
          have hle : x.i 0 ≤ ν.i 7 := by omega
          have em : (min (x.i 0) (ν.i 7)).toNat = (x.i 0).toNat := by omega
          rw [em] at j2
          generalize hy : Mt.vals _ (ghL []) ν2 = y
          have y0 : y.i 0 = x.i 0 + 1 := by rw [← hy]; simp only [Mt.vals, lkp_cons, lkp_nil, Nat.reduceEqDiff, reduceIte, SI.den, q0]
          refine nxLk32tn hI hp' (by decide) hg j0 hle y0 ?_ (by constructor <;> simp)
          generalize it32 false (b32 false false ν) (ν.g 1).t (x.i 0).toNat = S at j2 ⊢
          obtain ⟨st, nn, task, dn', cd, v⟩ := S
          obtain ⟨d1, d2, d3, d4, d5, d6, d7, d8⟩ := j2
          dsimp only at d1 d2 d3 d4 d5 d6 d7 d8
          subst d1
          have d2' : st = 2 := d2
          subst d2'
          have d5' : nn = x.i 2 := d5 (by decide)
          subst d5'
          have mkN := mask_modK (x.i 2) (ν.i 1) F.pw d3 d4
          have hw := d8
          simp only [wnt32, cond, Prod.mk.injEq] at hw
          simp only [JS32, ← hy, Mt.vals, lkp_cons, lkp_nil, Nat.reduceEqDiff, reduceIte, SI.den, SG.den, gi10u hI2, gb11u hI2, qa, qn, qc, qg, q0, q2, q10, q11, q12, q13, q16, mkT, mkN, IntKind.wrap_u64]
          generalize tolds (ν.g 1).t (x.i 0).toNat = T at hpc T0 ⊢
          obtain ⟨tv, tw⟩ := T
          dsimp only at hpc T0 ⊢
          by_cases hlt : x.i 0 < ν.i 7 <;> cases tw <;> first
            | (exfalso; omega)
            | (exfalso; simp at hpc; done)
            | (simp [hlt, A32.step, A32.fin, wnt32]; done)
            | (simp [hlt, A32.step, A32.fin, wnt32] <;> omega)
            | (simp [hlt, A32.step, A32.fin, wnt32]; simp at hw; refine ⟨?_, ?_⟩ <;> omega)
            | (simp only [hlt, A32.step, A32.fin, A32.dist]
               simp
               repeat' split
               all_goals first
                 | (exfalso; omega)
                 | (simp [wnt32]; done)
                 | (simp [wnt32] <;> omega))
        · intro g hg
          dsimp only at hg ⊢
          simp only [pcDen_cons_iff, pcDen_nil_iff, SB.den, decide_eq_true_eq, decide_eq_false_iff_not, beq_iff_eq, beq_eq_false_iff_ne] at hpc
          simp only [SI.den, SG.den, gi10u hI2, gb11u hI2, q7, qn, qa, qg, q0, q2, w64w64, w64s] at hpc
          have hle : x.i 0 ≤ ν.i 7 := by omega
          have em : (min (x.i 0) (ν.i 7)).toNat = (x.i 0).toNat := by omega
          rw [em] at j2
          generalize hy : Mt.vals _ (ghL []) ν2 = y
          have y0 : y.i 0 = x.i 0 + 1 := by rw [← hy]; simp only [Mt.vals, lkp_cons, lkp_nil, Nat.reduceEqDiff, reduceIte, SI.den, q0]
          refine nxLk32tn hI hp' (by decide) hg j0 hle y0 ?_ (by constructor <;> simp)
          generalize it32 false (b32 false false ν) (ν.g 1).t (x.i 0).toNat = S at j2 ⊢
          obtain ⟨st, nn, task, dn', cd, v⟩ := S
          obtain ⟨d1, d2, d3, d4, d5, d6, d7, d8⟩ := j2
          dsimp only at d1 d2 d3 d4 d5 d6 d7 d8
          subst d1
          have d2' : st = 2 := d2
          subst d2'
          have d5' : nn = x.i 2 := d5 (by decide)
          subst d5'
          have mkN := mask_modK (x.i 2) (ν.i 1) F.pw d3 d4
          have hw := d8
          simp only [wnt32, cond, Prod.mk.injEq] at hw
          simp only [JS32, ← hy, Mt.vals, lkp_cons, lkp_nil, Nat.reduceEqDiff, reduceIte, SI.den, SG.den, gi10u hI2, gb11u hI2, qa, qn, qc, qg, q0, q2, q10, q11, q12, q13, q16, mkT, mkN, IntKind.wrap_u64]
          generalize tolds (ν.g 1).t (x.i 0).toNat = T at hpc T0 ⊢
          obtain ⟨tv, tw⟩ := T
          dsimp only at hpc T0 ⊢
          by_cases hlt : x.i 0 < ν.i 7 <;> cases tw <;> first
            | (exfalso; omega)
            | (exfalso; simp at hpc; done)
            | (simp [hlt, A32.step, A32.fin, wnt32]; done)
            | (simp [hlt, A32.step, A32.fin, wnt32] <;> omega)
            | (simp [hlt, A32.step, A32.fin, wnt32]; simp at hw; refine ⟨?_, ?_⟩ <;> omega)
            | (simp only [hlt, A32.step, A32.fin, A32.dist]
               simp
               repeat' split
               all_goals first
                 | (exfalso; omega)
                 | (simp [wnt32]; done)
                 | (simp [wnt32] <;> omega))
        · intro g hg
          dsimp only at hg ⊢
          simp only [pcDen_cons_iff, pcDen_nil_iff, SB.den, decide_eq_true_eq, decide_eq_false_iff_not, beq_iff_eq, beq_eq_false_iff_ne] at hpc
          simp only [SI.den, SG.den, gi10u hI2, gb11u hI2, q7, qn, qa, qg, q0, q2, w64w64, w64s] at hpc
          have hle : x.i 0 ≤ ν.i 7 := by omega
          have em : (min (x.i 0) (ν.i 7)).toNat = (x.i 0).toNat := by omega
          rw [em] at j2
          generalize hy : Mt.vals _ (ghL []) ν2 = y
          have y0 : y.i 0 = x.i 0 + 1 := by rw [← hy]; simp only [Mt.vals, lkp_cons, lkp_nil, Nat.reduceEqDiff, reduceIte, SI.den, q0]
          refine nxLk32tn hI hp' (by decide) hg j0 hle y0 ?_ (by constructor <;> simp)
          generalize it32 false (b32 false false ν) (ν.g 1).t (x.i 0).toNat = S at j2 ⊢
          obtain ⟨st, nn, task, dn', cd, v⟩ := S
          obtain ⟨d1, d2, d3, d4, d5, d6, d7, d8⟩ := j2
          dsimp only at d1 d2 d3 d4 d5 d6 d7 d8
          subst d1
          have d2' : st = 2 := d2
          subst d2'
          have d5' : nn = x.i 2 := d5 (by decide)
          subst d5'
          have mkN := mask_modK (x.i 2) (ν.i 1) F.pw d3 d4
          have hw := d8
          simp only [wnt32, cond, Prod.mk.injEq] at hw
          simp only [JS32, ← hy, Mt.vals, lkp_cons, lkp_nil, Nat.reduceEqDiff, reduceIte, SI.den, SG.den, gi10u hI2, gb11u hI2, qa, qn, qc, qg, q0, q2, q10, q11, q12, q13, q16, mkT, mkN, IntKind.wrap_u64]
          generalize tolds (ν.g 1).t (x.i 0).toNat = T at hpc T0 ⊢
          obtain ⟨tv, tw⟩ := T
          dsimp only at hpc T0 ⊢
          by_cases hlt : x.i 0 < ν.i 7 <;> cases tw <;> first
            | (exfalso; omega)
            | (exfalso; simp at hpc; done)
            | (simp [hlt, A32.step, A32.fin, wnt32]; done)
            | (simp [hlt, A32.step, A32.fin, wnt32] <;> omega)
            | (simp [hlt, A32.step, A32.fin, wnt32]; simp at hw; refine ⟨?_, ?_⟩ <;> omega)
            | (simp only [hlt, A32.step, A32.fin, A32.dist]
               simp
               repeat' split
               all_goals first
                 | (exfalso; omega)
                 | (simp [wnt32]; done)
                 | (simp [wnt32] <;> omega))
      · simp only [sLk32tn11, qLwLk32tn0, tLwLk32tn1, qLwLk32tn1, List.mem_cons, List.not_mem_nil, or_false] at ht
        subst ht
        exact ⟨fun g hg => by cases hg; exact pcDen_nil _, by constructor <;> simp⟩
    | 2, hh, hs =>
      cases hs
      simp only [List.mem_cons, List.not_mem_nil, or_false] at hc
      rcases hc with rfl | rfl
      · simp only [sLk32tn20, tLwLk32tn0, qLwLk32tn0, qLwLk32tn1, qLwLk32tn2, qLwLk32tn3, qLwLk32tn4, List.mem_cons, List.not_mem_nil, or_false] at ht
        rcases ht with rfl | rfl | rfl | rfl | rfl
        · exfalso
          have e0 := pcAt hpc 0 rfl
          have e1 := pcAt hpc 6 rfl
          simp only [SB.den] at e0 e1
          rw [e0] at e1
          exact absurd e1 (by decide)
        · exfalso
          have e0 := pcAt hpc 0 rfl
          have e1 := pcAt hpc 8 rfl
          simp only [SB.den] at e0 e1
          rw [e0] at e1
          exact absurd e1 (by decide)
        · intro g hg
          dsimp only at hg ⊢
          simp only [pcDen_cons_iff, pcDen_nil_iff, SB.den, decide_eq_true_eq, decide_eq_false_iff_not, beq_iff_eq, beq_eq_false_iff_ne] at hpc
          simp only [SI.den, SG.den, gi10u hI2, gb11u hI2, q7, qn, qa, qg, q0, q2, w64w64, w64s] at hpc
          have hle : x.i 0 ≤ ν.i 7 := by omega
          have em : (min (x.i 0) (ν.i 7)).toNat = (x.i 0).toNat := by omega
          rw [em] at j2
          generalize hy : Mt.vals _ (ghL []) ν2 = y
          have y0 : y.i 0 = x.i 0 + 1 := by rw [← hy]; simp only [Mt.vals, lkp_cons, lkp_nil, Nat.reduceEqDiff, reduceIte, SI.den, q0]
          refine nxLk32tn hI hp' (by decide) hg j0 hle y0 ?_ (by constructor <;> simp)
          generalize it32 false (b32 false false ν) (ν.g 1).t (x.i 0).toNat = S at j2 ⊢
          obtain ⟨st, nn, task, dn', cd, v⟩ := S
          obtain ⟨d1, d2, d3, d4, d5, d6, d7, d8⟩ := j2
          dsimp only at d1 d2 d3 d4 d5 d6 d7 d8
          subst d1
          have d2' : st = 3 := d2
          subst d2'
          have d5' : nn = x.i 2 := d5 (by decide)
          subst d5'
          have mkN := mask_modK (x.i 2) (ν.i 1) F.pw d3 d4
          have hw := d8
          simp only [wnt32, cond, Prod.mk.injEq] at hw
          simp only [JS32, ← hy, Mt.vals, lkp_cons, lkp_nil, Nat.reduceEqDiff, reduceIte, SI.den, SG.den, gi10u hI2, gb11u hI2, qa, qn, qc, qg, q0, q2, q10, q11, q12, q13, q16, mkT, mkN, IntKind.wrap_u64]
          generalize tolds (ν.g 1).t (x.i 0).toNat = T at hpc T0 ⊢
          obtain ⟨tv, tw⟩ := T
          dsimp only at hpc T0 ⊢
          by_cases hlt : x.i 0 < ν.i 7 <;> cases tw <;> first
            | (exfalso; omega)
            | (exfalso; simp at hpc; done)
            | (simp [hlt, A32.step, A32.fin, wnt32]; done)
            | (simp [hlt, A32.step, A32.fin, wnt32] <;> omega)
            | (simp [hlt, A32.step, A32.fin, wnt32]; simp at hw; refine ⟨?_, ?_⟩ <;> omega)
            | (simp only [hlt, A32.step, A32.fin, A32.dist]
               simp
               repeat' split
               all_goals first
                 | (exfalso; omega)
                 | (simp [wnt32]; done)
                 | (simp [wnt32] <;> omega))
        · intro g hg
          dsimp only at hg ⊢
          simp only [pcDen_cons_iff, pcDen_nil_iff, SB.den, decide_eq_true_eq, decide_eq_false_iff_not, beq_iff_eq, beq_eq_false_iff_ne] at hpc
          simp only [SI.den, SG.den, gi10u hI2, gb11u hI2, q7, qn, qa, qg, q0, q2, w64w64, w64s] at hpc
          have hle : x.i 0 ≤ ν.i 7 := by omega
          have em : (min (x.i 0) (ν.i 7)).toNat = (x.i 0).toNat := by omega
          rw [em] at j2
          generalize hy : Mt.vals _ (ghL []) ν2 = y
          have y0 : y.i 0 = x.i 0 + 1 := by rw [← hy]; simp only [Mt.vals, lkp_cons, lkp_nil, Nat.reduceEqDiff, reduceIte, SI.den, q0]
          refine nxLk32tn hI hp' (by decide) hg j0 hle y0 ?_ (by constructor <;> simp)
          generalize it32 false (b32 false false ν) (ν.g 1).t (x.i 0).toNat = S at j2 ⊢
          obtain ⟨st, nn, task, dn', cd, v⟩ := S
          obtain ⟨d1, d2, d3, d4, d5, d6, d7, d8⟩ := j2
          dsimp only at d1 d2 d3 d4 d5 d6 d7 d8
          subst d1
          have d2' : st = 3 := d2
          subst d2'
          have d5' : nn = x.i 2 := d5 (by decide)
          subst d5'
          have mkN := mask_modK (x.i 2) (ν.i 1) F.pw d3 d4
          have hw := d8
          simp only [wnt32, cond, Prod.mk.injEq] at hw
          simp only [JS32, ← hy, Mt.vals, lkp_cons, lkp_nil, Nat.reduceEqDiff, reduceIte, SI.den, SG.den, gi10u hI2, gb11u hI2, qa, qn, qc, qg, q0, q2, q10, q11, q12, q13, q16, mkT, mkN, IntKind.wrap_u64]
          generalize tolds (ν.g 1).t (x.i 0).toNat = T at hpc T0 ⊢
          obtain ⟨tv, tw⟩ := T
          dsimp only at hpc T0 ⊢
          by_cases hlt : x.i 0 < ν.i 7 <;> cases tw <;> first
            | (exfalso; omega)
            | (exfalso; simp at hpc; done)
            | (simp [hlt, A32.step, A32.fin, wnt32]; done)
            | (simp [hlt, A32.step, A32.fin, wnt32] <;> omega)
            | (simp [hlt, A32.step, A32.fin, wnt32]; simp at hw; refine ⟨?_, ?_⟩ <;> omega)
            | (simp only [hlt, A32.step, A32.fin, A32.dist]
               simp
               repeat' split
               all_goals first
                 | (exfalso; omega)
                 | (simp [wnt32]; done)
                 | (simp [wnt32] <;> omega))
        · intro g hg
          dsimp only at hg ⊢
          simp only [pcDen_cons_iff, pcDen_nil_iff, SB.den, decide_eq_true_eq, decide_eq_false_iff_not, beq_iff_eq, beq_eq_false_iff_ne] at hpc
          simp only [SI.den, SG.den, gi10u hI2, gb11u hI2, q7, qn, qa, qg, q0, q2, w64w64, w64s] at hpc
          have hle : x.i 0 ≤ ν.i 7 := by omega
          have em : (min (x.i 0) (ν.i 7)).toNat = (x.i 0).toNat := by omega
          rw [em] at j2
          generalize hy : Mt.vals _ (ghL []) ν2 = y
          have y0 : y.i 0 = x.i 0 + 1 := by rw [← hy]; simp only [Mt.vals, lkp_cons, lkp_nil, Nat.reduceEqDiff, reduceIte, SI.den, q0]
          refine nxLk32tn hI hp' (by decide) hg j0 hle y0 ?_ (by constructor <;> simp)
          generalize it32 false (b32 false false ν) (ν.g 1).t (x.i 0).toNat = S at j2 ⊢
          obtain ⟨st, nn, task, dn', cd, v⟩ := S
          obtain ⟨d1, d2, d3, d4, d5, d6, d7, d8⟩ := j2
          dsimp only at d1 d2 d3 d4 d5 d6 d7 d8
          subst d1
          have d2' : st = 3 := d2
          subst d2'
          have d5' : nn = x.i 2 := d5 (by decide)
          subst d5'
          have mkN := mask_modK (x.i 2) (ν.i 1) F.pw d3 d4
          have hw := d8
          simp only [wnt32, cond, Prod.mk.injEq] at hw
          simp only [JS32, ← hy, Mt.vals, lkp_cons, lkp_nil, Nat.reduceEqDiff, reduceIte, SI.den, SG.den, gi10u hI2, gb11u hI2, qa, qn, qc, qg, q0, q2, q10, q11, q12, q13, q16, mkT, mkN, IntKind.wrap_u64]
          generalize tolds (ν.g 1).t (x.i 0).toNat = T at hpc T0 ⊢
          obtain ⟨tv, tw⟩ := T
          dsimp only at hpc T0 ⊢
          by_cases hlt : x.i 0 < ν.i 7 <;> cases tw <;> first
            | (exfalso; omega)
            | (exfalso; simp at hpc; done)
            | (simp [hlt, A32.step, A32.fin, wnt32]; done)
            | (simp [hlt, A32.step, A32.fin, wnt32] <;> omega)
            | (simp [hlt, A32.step, A32.fin, wnt32]; simp at hw; refine ⟨?_, ?_⟩ <;> omega)
            | (simp only [hlt, A32.step, A32.fin, A32.dist]
               simp
               repeat' split
               all_goals first
                 | (exfalso; omega)
                 | (simp [wnt32]; done)
                 | (simp [wnt32] <;> omega))
      · simp only [sLk32tn21, qLwLk32tn0, tLwLk32tn1, qLwLk32tn1, List.mem_cons, List.not_mem_nil, or_false] at ht
        subst ht
        exact ⟨fun g hg => by cases hg; exact pcDen_nil _, by constructor <;> simp⟩
    | 3, hh, hs =>
      cases hs
      simp only [List.mem_cons, List.not_mem_nil, or_false] at hc
      rcases hc with rfl | rfl
      · simp only [sLk32tn30, tLwLk32tn0, qLwLk32tn0, qLwLk32tn1, qLwLk32tn2, qLwLk32tn3, qLwLk32tn4, List.mem_cons, List.not_mem_nil, or_false] at ht
        rcases ht with rfl | rfl | rfl | rfl
        · exfalso
          have e0 := pcAt hpc 0 rfl
          have e1 := pcAt hpc 6 rfl
          simp only [SB.den] at e0 e1
          rw [e0] at e1
          exact absurd e1 (by decide)
        · exfalso
          have e0 := pcAt hpc 0 rfl
          have e1 := pcAt hpc 8 rfl
          simp only [SB.den] at e0 e1
          rw [e0] at e1
          exact absurd e1 (by decide)
        · intro g hg
          dsimp only at hg ⊢
          simp only [pcDen_cons_iff, pcDen_nil_iff, SB.den, decide_eq_true_eq, decide_eq_false_iff_not, beq_iff_eq, beq_eq_false_iff_ne] at hpc
          simp only [SI.den, SG.den, gi10u hI2, gb11u hI2, q7, qn, qa, qg, q0, q2, w64w64, w64s] at hpc
          have hle : x.i 0 ≤ ν.i 7 := by omega
          have em : (min (x.i 0) (ν.i 7)).toNat = (x.i 0).toNat := by omega
          rw [em] at j2
          generalize hy : Mt.vals _ (ghL []) ν2 = y
          have y0 : y.i 0 = x.i 0 + 1 := by rw [← hy]; simp only [Mt.vals, lkp_cons, lkp_nil, Nat.reduceEqDiff, reduceIte, SI.den, q0]
          refine nxLk32tn hI hp' (by decide) hg j0 hle y0 ?_ (by constructor <;> simp <;> (have rfy : RF nLk ν y (ν.at nLk y) := RF.self rfl; simp only [SL.den, SI.den, rfy.i 16 (by decide)]; rw [← hy]; simp only [Mt.vals, lkp_cons, lkp_nil, Nat.reduceEqDiff, reduceIte, SI.den, Nat.add_zero]))
          generalize it32 false (b32 false false ν) (ν.g 1).t (x.i 0).toNat = S at j2 ⊢
          obtain ⟨st, nn, task, dn', cd, v⟩ := S
          obtain ⟨d1, d2, d3, d4, d5, d6, d7, d8⟩ := j2
          dsimp only at d1 d2 d3 d4 d5 d6 d7 d8
          subst d1
          have d2' : st = 4 := d2
          subst d2'
          have d5' : nn = x.i 2 := d5 (by decide)
          subst d5'
          have mkN := mask_modK (x.i 2) (ν.i 1) F.pw d3 d4
          have hw := d8
          simp only [wnt32, cond, Prod.mk.injEq] at hw
          simp only [JS32, ← hy, Mt.vals, lkp_cons, lkp_nil, Nat.reduceEqDiff, reduceIte, SI.den, SG.den, gi10u hI2, gb11u hI2, qa, qn, qc, qg, q0, q2, q10, q11, q12, q13, q16, mkT, mkN, IntKind.wrap_u64]
          generalize tolds (ν.g 1).t (x.i 0).toNat = T at hpc T0 ⊢
          obtain ⟨tv, tw⟩ := T
          dsimp only at hpc T0 ⊢
          by_cases hlt : x.i 0 < ν.i 7 <;> cases tw <;> first
            | (exfalso; omega)
            | (exfalso; simp at hpc; done)
            | (simp [hlt, A32.step, A32.fin, wnt32]; done)
            | (simp [hlt, A32.step, A32.fin, wnt32] <;> omega)
            | (simp [hlt, A32.step, A32.fin, wnt32]; simp at hw; refine ⟨?_, ?_⟩ <;> omega)
            | (simp only [hlt, A32.step, A32.fin, A32.dist]
               simp
               repeat' split
               all_goals first
                 | (exfalso; omega)
                 | (simp [wnt32]; done)
                 | (simp [wnt32] <;> omega))
        · intro g hg
          dsimp only at hg ⊢
          simp only [pcDen_cons_iff, pcDen_nil_iff, SB.den, decide_eq_true_eq, decide_eq_false_iff_not, beq_iff_eq, beq_eq_false_iff_ne] at hpc
          simp only [SI.den, SG.den, gi10u hI2, gb11u hI2, q7, qn, qa, qg, q0, q2, w64w64, w64s] at hpc
          have hle : x.i 0 ≤ ν.i 7 := by omega
          have em : (min (x.i 0) (ν.i 7)).toNat = (x.i 0).toNat := by omega
          rw [em] at j2
          generalize hy : Mt.vals _ (ghL []) ν2 = y
          have y0 : y.i 0 = x.i 0 + 1 := by rw [← hy]; simp only [Mt.vals, lkp_cons, lkp_nil, Nat.reduceEqDiff, reduceIte, SI.den, q0]
          refine nxLk32tn hI hp' (by decide) hg j0 hle y0 ?_ (by constructor <;> simp)
          generalize it32 false (b32 false false ν) (ν.g 1).t (x.i 0).toNat = S at j2 ⊢
          obtain ⟨st, nn, task, dn', cd, v⟩ := S
          obtain ⟨d1, d2, d3, d4, d5, d6, d7, d8⟩ := j2
          dsimp only at d1 d2 d3 d4 d5 d6 d7 d8
          subst d1
          have d2' : st = 4 := d2
          subst d2'
          have d5' : nn = x.i 2 := d5 (by decide)
          subst d5'
          have mkN := mask_modK (x.i 2) (ν.i 1) F.pw d3 d4
          have hw := d8
          simp only [wnt32, cond, Prod.mk.injEq] at hw
          simp only [JS32, ← hy, Mt.vals, lkp_cons, lkp_nil, Nat.reduceEqDiff, reduceIte, SI.den, SG.den, gi10u hI2, gb11u hI2, qa, qn, qc, qg, q0, q2, q10, q11, q12, q13, q16, mkT, mkN, IntKind.wrap_u64]
          generalize tolds (ν.g 1).t (x.i 0).toNat = T at hpc T0 ⊢
          obtain ⟨tv, tw⟩ := T
          dsimp only at hpc T0 ⊢
          by_cases hlt : x.i 0 < ν.i 7 <;> cases tw <;> first
            | (exfalso; omega)
            | (exfalso; simp at hpc; done)
            | (simp [hlt, A32.step, A32.fin, wnt32]; done)
            | (simp [hlt, A32.step, A32.fin, wnt32] <;> omega)
            | (simp [hlt, A32.step, A32.fin, wnt32]; simp at hw; refine ⟨?_, ?_⟩ <;> omega)
            | (simp only [hlt, A32.step, A32.fin, A32.dist]
               simp
               repeat' split
               all_goals first
                 | (exfalso; omega)
                 | (simp [wnt32]; done)
                 | (simp [wnt32] <;> omega))
      · simp only [sLk32tn31, qLwLk32tn0, tLwLk32tn1, qLwLk32tn1, List.mem_cons, List.not_mem_nil, or_false] at ht
        subst ht
        exact ⟨fun g hg => by cases hg; exact pcDen_nil _, by constructor <;> simp⟩
    | 4, hh, hs =>
      cases hs
      simp only [List.mem_cons, List.not_mem_nil, or_false] at hc
      rcases hc with rfl | rfl
      · simp only [sLk32tn40, qLwLk32tn0, tLwLk32tn1, qLwLk32tn1, qLwLk32tn3, qLwLk32tn4, qLwLk32tn5, List.mem_cons, List.not_mem_nil, or_false] at ht
        rcases ht with rfl | rfl | rfl | rfl
        · exfalso
          have e0 := pcAt hpc 1 rfl
          have e1 := pcAt hpc 7 rfl
          simp only [SB.den] at e0 e1
          rw [e0] at e1
          exact absurd e1 (by decide)
        · exfalso
          have e0 := pcAt hpc 1 rfl
          have e1 := pcAt hpc 9 rfl
          simp only [SB.den] at e0 e1
          rw [e0] at e1
          exact absurd e1 (by decide)
        · intro g hg
          dsimp only at hg ⊢
          simp only [pcDen_cons_iff, pcDen_nil_iff, SB.den, decide_eq_true_eq, decide_eq_false_iff_not, beq_iff_eq, beq_eq_false_iff_ne] at hpc
          simp only [SI.den, SG.den, gi10u hI2, gb11u hI2, q7, qn, qa, qg, q0, q2, w64w64, w64s] at hpc
          have hle : x.i 0 ≤ ν.i 7 := by omega
          have em : (min (x.i 0) (ν.i 7)).toNat = (x.i 0).toNat := by omega
          rw [em] at j2
          generalize hy : Mt.vals _ (ghL []) ν2 = y
          have y0 : y.i 0 = x.i 0 + 1 := by rw [← hy]; simp only [Mt.vals, lkp_cons, lkp_nil, Nat.reduceEqDiff, reduceIte, SI.den, q0]
          refine nxLk32tn hI hp' (by decide) hg j0 hle y0 ?_ (by constructor <;> simp)
          generalize it32 false (b32 false false ν) (ν.g 1).t (x.i 0).toNat = S at j2 ⊢
          obtain ⟨st, nn, task, dn', cd, v⟩ := S
          obtain ⟨d1, d2, d3, d4, d5, d6, d7, d8⟩ := j2
          dsimp only at d1 d2 d3 d4 d5 d6 d7 d8
          subst d1
          have d2' : st = 5 := d2
          subst d2'
          have d5' : nn = x.i 2 := d5 (by decide)
          subst d5'
          have mkN := mask_modK (x.i 2) (ν.i 1) F.pw d3 d4
          have d7' : task = x.i 16 := d7 rfl rfl
          subst d7'
          have hw := d8
          simp only [wnt32, cond, Prod.mk.injEq] at hw
          simp only [JS32, ← hy, Mt.vals, lkp_cons, lkp_nil, Nat.reduceEqDiff, reduceIte, SI.den, SG.den, gi10u hI2, gb11u hI2, qa, qn, qc, qg, q0, q2, q10, q11, q12, q13, q16, mkT, mkN, IntKind.wrap_u64]
          generalize tolds (ν.g 1).t (x.i 0).toNat = T at hpc T0 ⊢
          obtain ⟨tv, tw⟩ := T
          dsimp only at hpc T0 ⊢
          by_cases hlt : x.i 0 < ν.i 7 <;> cases tw <;> first
            | (exfalso; omega)
            | (exfalso; simp at hpc; done)
            | (simp [hlt, A32.step, A32.fin, wnt32]; done)
            | (simp [hlt, A32.step, A32.fin, wnt32] <;> omega)
            | (simp [hlt, A32.step, A32.fin, wnt32]; simp at hw; refine ⟨?_, ?_⟩ <;> omega)
            | (simp only [hlt, A32.step, A32.fin, A32.dist]
               simp
               repeat' split
               all_goals first
                 | (exfalso; omega)
                 | (simp [wnt32]; done)
                 | (simp [wnt32] <;> omega))
        · intro g hg
          dsimp only at hg ⊢
          simp only [pcDen_cons_iff, pcDen_nil_iff, SB.den, decide_eq_true_eq, decide_eq_false_iff_not, beq_iff_eq, beq_eq_false_iff_ne] at hpc
          simp only [SI.den, SG.den, gi10u hI2, gb11u hI2, q7, qn, qa, qg, q0, q2, w64w64, w64s] at hpc
          have hle : x.i 0 ≤ ν.i 7 := by omega
          have em : (min (x.i 0) (ν.i 7)).toNat = (x.i 0).toNat := by omega
          rw [em] at j2
          generalize hy : Mt.vals _ (ghL []) ν2 = y
          have y0 : y.i 0 = x.i 0 + 1 := by rw [← hy]; simp only [Mt.vals, lkp_cons, lkp_nil, Nat.reduceEqDiff, reduceIte, SI.den, q0]
          refine nxLk32tn hI hp' (by decide) hg j0 hle y0 ?_ (by constructor <;> simp <;> (have rfy : RF nLk ν y (ν.at nLk y) := RF.self rfl; simp only [SL.den, SI.den, rfy.i 16 (by decide)]; rw [← hy]; simp only [Mt.vals, lkp_cons, lkp_nil, Nat.reduceEqDiff, reduceIte, SI.den, Nat.add_zero]))
          generalize it32 false (b32 false false ν) (ν.g 1).t (x.i 0).toNat = S at j2 ⊢
          obtain ⟨st, nn, task, dn', cd, v⟩ := S
          obtain ⟨d1, d2, d3, d4, d5, d6, d7, d8⟩ := j2
          dsimp only at d1 d2 d3 d4 d5 d6 d7 d8
          subst d1
          have d2' : st = 5 := d2
          subst d2'
          have d5' : nn = x.i 2 := d5 (by decide)
          subst d5'
          have mkN := mask_modK (x.i 2) (ν.i 1) F.pw d3 d4
          have d7' : task = x.i 16 := d7 rfl rfl
          subst d7'
          have hw := d8
          simp only [wnt32, cond, Prod.mk.injEq] at hw
          simp only [JS32, ← hy, Mt.vals, lkp_cons, lkp_nil, Nat.reduceEqDiff, reduceIte, SI.den, SG.den, gi10u hI2, gb11u hI2, qa, qn, qc, qg, q0, q2, q10, q11, q12, q13, q16, mkT, mkN, IntKind.wrap_u64]
          generalize tolds (ν.g 1).t (x.i 0).toNat = T at hpc T0 ⊢
          obtain ⟨tv, tw⟩ := T
          dsimp only at hpc T0 ⊢
          by_cases hlt : x.i 0 < ν.i 7 <;> cases tw <;> first
            | (exfalso; omega)
            | (exfalso; simp at hpc; done)
            | (simp [hlt, A32.step, A32.fin, wnt32]; done)
            | (simp [hlt, A32.step, A32.fin, wnt32] <;> omega)
            | (simp [hlt, A32.step, A32.fin, wnt32]; simp at hw; refine ⟨?_, ?_⟩ <;> omega)
            | (simp only [hlt, A32.step, A32.fin, A32.dist]
               simp
               repeat' split
               all_goals first
                 | (exfalso; omega)
                 | (simp [wnt32]; done)
                 | (simp [wnt32] <;> omega))
      · simp only [sLk32tn41, qLwLk32tn0, tLwLk32tn1, qLwLk32tn1, List.mem_cons, List.not_mem_nil, or_false] at ht
        subst ht
        exact ⟨fun g hg => by cases hg; exact pcDen_nil _, by constructor <;> simp⟩
    | 5, hh, hs =>
      cases hs
      simp only [List.mem_cons, List.not_mem_nil, or_false] at hc
      rcases hc with rfl | rfl
      · simp only [sLk32tn50, qLwLk32tn0, tLwLk32tn1, qLwLk32tn1, qLwLk32tn2, qLwLk32tn3, qLwLk32tn4, qLwLk32tn6, List.mem_cons, List.not_mem_nil, or_false] at ht
        rcases ht with rfl | rfl | rfl | rfl
        · exfalso
          have e0 := pcAt hpc 0 rfl
          have e1 := pcAt hpc 6 rfl
          simp only [SB.den] at e0 e1
          rw [e0] at e1
          exact absurd e1 (by decide)
        · exfalso
          have e0 := pcAt hpc 0 rfl
          have e1 := pcAt hpc 8 rfl
          simp only [SB.den] at e0 e1
          rw [e0] at e1
          exact absurd e1 (by decide)
        · intro g hg
          dsimp only at hg ⊢
          simp only [pcDen_cons_iff, pcDen_nil_iff, SB.den, decide_eq_true_eq, decide_eq_false_iff_not, beq_iff_eq, beq_eq_false_iff_ne] at hpc
          simp only [SI.den, SG.den, gi10u hI2, gb11u hI2, q7, qn, qa, qg, q0, q2, w64w64, w64s] at hpc
          have hle : x.i 0 ≤ ν.i 7 := by omega
          have em : (min (x.i 0) (ν.i 7)).toNat = (x.i 0).toNat := by omega
          rw [em] at j2
          generalize hy : Mt.vals _ (ghL []) ν2 = y
          have y0 : y.i 0 = x.i 0 + 1 := by rw [← hy]; simp only [Mt.vals, lkp_cons, lkp_nil, Nat.reduceEqDiff, reduceIte, SI.den, q0]
          refine nxLk32tn hI hp' (by decide) hg j0 hle y0 ?_ (by constructor <;> simp)
          generalize it32 false (b32 false false ν) (ν.g 1).t (x.i 0).toNat = S at j2 ⊢
          obtain ⟨st, nn, task, dn', cd, v⟩ := S
          obtain ⟨d1, d2, d3⟩ := j2
          dsimp only at d1 d2 d3
          subst d1
          simp only [JS32, ← hy, Mt.vals, lkp_cons, lkp_nil, Nat.reduceEqDiff, reduceIte, SI.den, q14, q15]
          simp [JS32, A32.step, d2, d3]
        · intro g hg
          dsimp only at hg ⊢
          simp only [pcDen_cons_iff, pcDen_nil_iff, SB.den, decide_eq_true_eq, decide_eq_false_iff_not, beq_iff_eq, beq_eq_false_iff_ne] at hpc
          simp only [SI.den, SG.den, gi10u hI2, gb11u hI2, q7, qn, qa, qg, q0, q2, w64w64, w64s] at hpc
          have hle : x.i 0 ≤ ν.i 7 := by omega
          have em : (min (x.i 0) (ν.i 7)).toNat = (x.i 0).toNat := by omega
          rw [em] at j2
          generalize hy : Mt.vals _ (ghL []) ν2 = y
          have y0 : y.i 0 = x.i 0 + 1 := by rw [← hy]; simp only [Mt.vals, lkp_cons, lkp_nil, Nat.reduceEqDiff, reduceIte, SI.den, q0]
          refine nxLk32tn hI hp' (by decide) hg j0 hle y0 ?_ (by constructor <;> simp)
          generalize it32 false (b32 false false ν) (ν.g 1).t (x.i 0).toNat = S at j2 ⊢
          obtain ⟨st, nn, task, dn', cd, v⟩ := S
          obtain ⟨d1, d2, d3⟩ := j2
          dsimp only at d1 d2 d3
          subst d1
          simp only [JS32, ← hy, Mt.vals, lkp_cons, lkp_nil, Nat.reduceEqDiff, reduceIte, SI.den, q14, q15]
          simp [JS32, A32.step, d2, d3]
      · simp only [sLk32tn51, qLwLk32tn0, tLwLk32tn1, qLwLk32tn1, List.mem_cons, List.not_mem_nil, or_false] at ht
        subst ht
        exact ⟨fun g hg => by cases hg; exact pcDen_nil _, by constructor <;> simp⟩
    | m + 6, hh, hs => cases hs
end Go.Proofs.Ytlmenjenkpnacaa
end
