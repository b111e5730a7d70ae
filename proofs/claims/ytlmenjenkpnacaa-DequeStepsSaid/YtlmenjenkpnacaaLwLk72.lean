/- Is a deque's walk like the document's, round by round (kind 2; 0: refused). (Printed by lk7.py.) -/
import Derived.Test.YtlmenjenkpnacaaLwXA
import Derived.Test.YtlmenjenkpnacaaLwXV
import Derived.Test.YtlmenjenkpnacaaLwXL
set_option linter.unusedVariables false
set_option linter.unusedSimpArgs false

section
namespace Go.Proofs.Ytlmenjenkpnacaa
open Go Go.Sy Go.RowKit
def zLwLk720 : Nat := 5260135901548373507240989934051954660990865910900270587479850769853370845279122322427879405659413171922970205690684871108349574622942225781884483965064225368138333814758555578431732046206757194380464359020167168
def zLwLk721 : Nat := 5260135901548373507240989921752790514827527715398137903463817006865051110766797039493633924737851398825188014377698376052382721259776123532726058215851836366363196767622612276723328850132891802511101513793798144

def qLwLk720 : SG := (.app 76 (.var 2) (.app 82 (.var 1) (.var 0) (.add (.var 7) (.lit 1)) (.lit 0) (.lit 0) (.lit 0) (.cons (.var 0) (.cons (.var 1) (.cons (.lit 2) (.cons (.lit 0) (.cons (.lit 1) (.cons (.lit 0) (.cons (.lit 0) (.cons (.lit 0) (.cons (.lit 0) (.cons (.lit 0) (.cons (.lit 0) (.cons (.lit 0) .nil))))))))))))) (.lit 0) (.lit 0) (.lit 0) (.lit 0) .nil)
def qLwLk721 : SI := (.gi 17 (.app 78 (.var 2) (.var 0) (.lit 121) (.lit 10) (.var 2) (.lit 0) (.cons (.lit 3) (.cons (.lit 3) (.cons (.lit 7) (.cons (.lit 7) (.cons (.lit 8) (.cons (.lit 3) (.cons (.lit 7) (.cons (.lit 10) (.cons (.lit 8) (.cons (.lit 10) .nil))))))))))) (.lit 0) (.lit 0))
def qLwLk722 : SG := (.app 2 (.app 1 (.var 0) (.var 0) (.lit 0) (.lit 0) (.lit 0) (.lit 0) .nil) (.app 1 (.var 0) (.var 0) (.lit 0) (.lit 0) (.lit 0) (.lit 0) (.gl 0 (.app 70 (.var 2) (.var 2) (.mul (.var (nLk + 0)) (.lit 10)) (.lit 9) (.lit 0) (.lit 0) .nil) (.lit 0) (.lit 0))) (.lit 0) (.lit 0) (.lit 0) (.lit 0) .nil)
def qLwLk723 : SG := (.app 70 (.var 2) (.var 2) (.mul (.var (nLk + 0)) (.lit 10)) (.lit 4) (.lit 0) (.lit 0) .nil)
def qLwLk724 : SG := (.app 70 (.var 2) (.var 2) (.mul (.var (nLk + 0)) (.lit 10)) (.lit 8) (.lit 0) (.lit 0) .nil)
def qLwLk725 : SG := (.app 2 (.app 1 (.var 0) (.var 0) (.lit 0) (.lit 0) (.lit 0) (.lit 0) (.cons (.var (nLk + 4)) .nil)) (.app 1 (.var 0) (.var 0) (.lit 0) (.lit 0) (.lit 0) (.lit 0) (.gl 0 (.app 70 (.var 2) (.var 2) (.mul (.var (nLk + 0)) (.lit 10)) (.lit 9) (.lit 0) (.lit 0) .nil) (.lit 0) (.lit 0))) (.lit 0) (.lit 0) (.lit 0) (.lit 0) .nil)
def qLwLk726 : SG := (.app 2 (.app 1 (.var 0) (.var 0) (.lit 0) (.lit 0) (.lit 0) (.lit 0) .nil) (.app 1 (.var 0) (.var 0) (.lit 0) (.lit 0) (.lit 0) (.lit 0) (.gl 0 (.app 70 (.var 2) (.var 2) (.mul (.var (nLk + 0)) (.lit 10)) (.lit 7) (.lit 0) (.lit 0) .nil) (.lit 0) (.lit 0))) (.lit 0) (.lit 0) (.lit 0) (.lit 0) .nil)
def tLwLk720 : PC := [((.lt (.var 7) (.var (nLk + 0))), false), ((.eq (.var (nLk + 10)) (.gi 15 (.var 2) (.mul (.var (nLk + 0)) (.lit 10)) (.lit 0))), true), ((.eq (.var (nLk + 11)) (.gi 15 (.var 2) (.mul (.var (nLk + 0)) (.lit 10)) (.lit 1))), true), ((.eq (.var (nLk + 12)) (.gi 15 (.var 2) (.mul (.var (nLk + 0)) (.lit 10)) (.lit 2))), true), ((.eq (.var (nLk + 13)) (.gi 15 (.var 2) (.mul (.var (nLk + 0)) (.lit 10)) (.lit 3))), true), ((.same (.lit true) (.gb 0 qLwLk723 (.lit 0) (.lit 0))), true), ((.same (.lit false) (.gb 0 qLwLk724 (.lit 0) (.lit 0))), true), ((.gb 0 qLwLk722 (.lit 0) (.lit 0)), true), ((.lt (.var (nLk + 0)) (.lit 0)), false), ((.lt (.add (.var 7) (.lit 1)) (.var (nLk + 0))), false), ((.lt (.var (nLk + 2)) (.lit 0)), false), ((.lt (.var (nLk + 2)) (.lit 18446744073709551616)), true), ((.lt (.var (nLk + 3)) (.lit 0)), false), ((.lt (.var (nLk + 3)) (.lit 18446744073709551616)), true), ((.lt (.var (nLk + 4)) (.lit 0)), false), ((.lt (.var (nLk + 4)) (.lit 18446744073709551616)), true), ((.gb 0 qLwLk720 (.lit 0) (.lit 0)), true), ((.eq qLwLk721 (.add (.var 7) (.lit 1))), true), ((.lt (.var 0) (.lit 0)), false), ((.lt (.var 0) (.sub (.lit 65535) (.mul (.lit 1) (.var 1)))), true), ((.lt (.var 1) (.lit 2)), false), ((.lt (.lit 256) (.var 1)), false), ((.or (.eq (.var 1) (.lit 2)) (.or (.eq (.var 1) (.lit 4)) (.or (.eq (.var 1) (.lit 8)) (.or (.eq (.var 1) (.lit 16)) (.or (.eq (.var 1) (.lit 32)) (.or (.eq (.var 1) (.lit 64)) (.or (.eq (.var 1) (.lit 128)) (.eq (.var 1) (.lit 256))))))))), true), ((.lt (.var 7) (.lit 0)), false), ((.lt (.lit 200) (.var 7)), false), ((.lt (.var 8) (.lit 0)), false), ((.gb 0 (.app 83 (.var 1) (.var 0) (.lit 0) (.lit 0) (.lit 0) (.lit 0) .nil) (.lit 0) (.lit 0)), true)]
def tLwLk721 : PC := [((.gb 0 qLwLk720 (.lit 0) (.lit 0)), true), ((.eq qLwLk721 (.add (.var 7) (.lit 1))), true), ((.lt (.var 0) (.lit 0)), false), ((.lt (.var 0) (.sub (.lit 65535) (.mul (.lit 1) (.var 1)))), true), ((.lt (.var 1) (.lit 2)), false), ((.lt (.lit 256) (.var 1)), false), ((.or (.eq (.var 1) (.lit 2)) (.or (.eq (.var 1) (.lit 4)) (.or (.eq (.var 1) (.lit 8)) (.or (.eq (.var 1) (.lit 16)) (.or (.eq (.var 1) (.lit 32)) (.or (.eq (.var 1) (.lit 64)) (.or (.eq (.var 1) (.lit 128)) (.eq (.var 1) (.lit 256))))))))), true), ((.lt (.var 7) (.lit 0)), false), ((.lt (.lit 200) (.var 7)), false), ((.lt (.var 8) (.lit 0)), false), ((.gb 0 (.app 83 (.var 1) (.var 0) (.lit 0) (.lit 0) (.lit 0) (.lit 0) .nil) (.lit 0) (.lit 0)), true)]
def pcLk72 : PC := tLwLk721
def stLk72 : Mt := ⟨[], [(4, (.lit 0)), (3, (.lit 0)), (2, (.lit 0)), (13, (.lit 0)), (12, (.lit 0)), (11, (.add (.var 0) (.lit 1))), (10, (.lit 1)), (0, (.lit 0))], [], [], [], [], [], []⟩
def sLk72k0c0 : List SumT := [
  ⟨.ret, 1, ⟨[], [], [], [], [], [], [], []⟩, (((.gb 0 qLwLk723 (.lit 0) (.lit 0)), false) :: tLwLk720)⟩,
  ⟨.ret, 1, ⟨[], [], [], [], [], [], [], []⟩, (((.gb 0 qLwLk724 (.lit 0) (.lit 0)), true) :: ((.gb 0 qLwLk723 (.lit 0) (.lit 0)), true) :: tLwLk720)⟩,
  ⟨.normal, 1, ⟨[], [(4, (.var (nLk + 4))), (3, (.var (nLk + 3))), (2, (.wrap .u64 (.sub (.gi 10 (.var 1) (.var (nLk + 0)) (.lit 0)) (.lit 1)))), (13, (.lit 0)), (12, (.wrap .u64 (.sub (.gi 10 (.var 1) (.var (nLk + 0)) (.lit 0)) (.lit 1)))), (11, (.add (.var 0) (.lit 1))), (10, (.lit 2)), (0, (.add (.var (nLk + 0)) (.lit 1)))], [], [], [], [], [], []⟩, (((.lt (.var (nLk + 0)) (.var 7)), true) :: ((.gb 0 qLwLk724 (.lit 0) (.lit 0)), false) :: ((.gb 0 qLwLk723 (.lit 0) (.lit 0)), true) :: tLwLk720)⟩,
  ⟨.normal, 0, ⟨[], [(4, (.var (nLk + 4))), (3, (.var (nLk + 3))), (2, (.var (nLk + 2))), (13, (.var (nLk + 13))), (12, (.var (nLk + 12))), (11, (.var (nLk + 11))), (10, (.var (nLk + 10))), (0, (.add (.var (nLk + 0)) (.lit 1)))], [], [], [], [], [], []⟩, (((.lt (.var (nLk + 0)) (.var 7)), false) :: ((.gb 0 qLwLk724 (.lit 0) (.lit 0)), false) :: ((.gb 0 qLwLk723 (.lit 0) (.lit 0)), true) :: tLwLk720)⟩]
def sLk72k0c1 : List SumT := [
  ⟨.exit 0, 0, ⟨[], [], [], [], [], [], [], []⟩, (((.lt (.var 7) (.var (nLk + 0))), true) :: ((.lt (.var (nLk + 0)) (.lit 0)), false) :: ((.lt (.add (.var 7) (.lit 1)) (.var (nLk + 0))), false) :: ((.lt (.var (nLk + 2)) (.lit 0)), false) :: ((.lt (.var (nLk + 2)) (.lit 18446744073709551616)), true) :: ((.lt (.var (nLk + 3)) (.lit 0)), false) :: ((.lt (.var (nLk + 3)) (.lit 18446744073709551616)), true) :: ((.lt (.var (nLk + 4)) (.lit 0)), false) :: ((.lt (.var (nLk + 4)) (.lit 18446744073709551616)), true) :: tLwLk721)⟩]
def sLk72k1c0 : List SumT := [
  ⟨.ret, 1, ⟨[], [], [], [], [], [], [], []⟩, (((.gb 0 qLwLk723 (.lit 0) (.lit 0)), false) :: tLwLk720)⟩,
  ⟨.ret, 1, ⟨[], [], [], [], [], [], [], []⟩, (((.gb 0 qLwLk724 (.lit 0) (.lit 0)), true) :: ((.gb 0 qLwLk723 (.lit 0) (.lit 0)), true) :: tLwLk720)⟩,
  ⟨.normal, 2, ⟨[], [(4, (.var (nLk + 4))), (3, (.var (nLk + 3))), (2, (.var (nLk + 2))), (13, (.lit 0)), (12, (.lit 0)), (11, (.var 0)), (10, (.lit 1)), (0, (.add (.var (nLk + 0)) (.lit 1)))], [], [], [], [], [], []⟩, (((.lt (.var (nLk + 0)) (.var 7)), true) :: ((.gb 0 qLwLk724 (.lit 0) (.lit 0)), false) :: ((.gb 0 qLwLk723 (.lit 0) (.lit 0)), true) :: tLwLk720)⟩,
  ⟨.normal, 1, ⟨[], [(4, (.var (nLk + 4))), (3, (.var (nLk + 3))), (2, (.var (nLk + 2))), (13, (.var (nLk + 13))), (12, (.var (nLk + 12))), (11, (.var (nLk + 11))), (10, (.var (nLk + 10))), (0, (.add (.var (nLk + 0)) (.lit 1)))], [], [], [], [], [], []⟩, (((.lt (.var (nLk + 0)) (.var 7)), false) :: ((.gb 0 qLwLk724 (.lit 0) (.lit 0)), false) :: ((.gb 0 qLwLk723 (.lit 0) (.lit 0)), true) :: tLwLk720)⟩]
def sLk72k1c1 : List SumT := [
  ⟨.exit 0, 0, ⟨[], [], [], [], [], [], [], []⟩, (((.lt (.var 7) (.var (nLk + 0))), true) :: ((.lt (.var (nLk + 0)) (.lit 0)), false) :: ((.lt (.add (.var 7) (.lit 1)) (.var (nLk + 0))), false) :: ((.lt (.var (nLk + 2)) (.lit 0)), false) :: ((.lt (.var (nLk + 2)) (.lit 18446744073709551616)), true) :: ((.lt (.var (nLk + 3)) (.lit 0)), false) :: ((.lt (.var (nLk + 3)) (.lit 18446744073709551616)), true) :: ((.lt (.var (nLk + 4)) (.lit 0)), false) :: ((.lt (.var (nLk + 4)) (.lit 18446744073709551616)), true) :: tLwLk721)⟩]
def sLk72k2c0 : List SumT := [
  ⟨.ret, 1, ⟨[], [], [], [], [], [], [], []⟩, (((.gb 0 qLwLk723 (.lit 0) (.lit 0)), false) :: tLwLk720)⟩,
  ⟨.ret, 1, ⟨[], [], [], [], [], [], [], []⟩, (((.gb 0 qLwLk724 (.lit 0) (.lit 0)), true) :: ((.gb 0 qLwLk723 (.lit 0) (.lit 0)), true) :: tLwLk720)⟩,
  ⟨.normal, 4, ⟨[], [(4, (.var (nLk + 4))), (3, (.gi 10 (.var 1) (.var (nLk + 0)) (.lit 0))), (2, (.var (nLk + 2))), (13, (.lit 0)), (12, (.wrap .u64 (.add (.var (nLk + 2)) (.lit 1)))), (11, (.add (.var 0) (.lit 1))), (10, (.lit 2)), (0, (.add (.var (nLk + 0)) (.lit 1)))], [], [], [], [], [], []⟩, (((.lt (.wrap .i64 (.wrap .u64 (.sub (.var (nLk + 2)) (.gi 10 (.var 1) (.var (nLk + 0)) (.lit 0))))) (.lit 0)), true) :: ((.lt (.var (nLk + 0)) (.var 7)), true) :: ((.gb 0 qLwLk724 (.lit 0) (.lit 0)), false) :: ((.gb 0 qLwLk723 (.lit 0) (.lit 0)), true) :: tLwLk720)⟩,
  ⟨.normal, 3, ⟨[], [(4, (.var (nLk + 4))), (3, (.gi 10 (.var 1) (.var (nLk + 0)) (.lit 0))), (2, (.var (nLk + 2))), (13, (.lit 0)), (12, (.lit 0)), (11, (.add (.add (.var 0) (.lit 2)) (.bits 0 .u64 (.var (nLk + 2)) (.sub (.var 1) (.lit 1))))), (10, (.lit 1)), (0, (.add (.var (nLk + 0)) (.lit 1)))], [], [], [], [], [], []⟩, (((.lt (.wrap .i64 (.wrap .u64 (.sub (.var (nLk + 2)) (.gi 10 (.var 1) (.var (nLk + 0)) (.lit 0))))) (.lit 0)), false) :: ((.lt (.var (nLk + 0)) (.var 7)), true) :: ((.gb 0 qLwLk724 (.lit 0) (.lit 0)), false) :: ((.gb 0 qLwLk723 (.lit 0) (.lit 0)), true) :: tLwLk720)⟩,
  ⟨.normal, 2, ⟨[], [(4, (.var (nLk + 4))), (3, (.var (nLk + 3))), (2, (.var (nLk + 2))), (13, (.var (nLk + 13))), (12, (.var (nLk + 12))), (11, (.var (nLk + 11))), (10, (.var (nLk + 10))), (0, (.add (.var (nLk + 0)) (.lit 1)))], [], [], [], [], [], []⟩, (((.lt (.var (nLk + 0)) (.var 7)), false) :: ((.gb 0 qLwLk724 (.lit 0) (.lit 0)), false) :: ((.gb 0 qLwLk723 (.lit 0) (.lit 0)), true) :: tLwLk720)⟩]
def sLk72k2c1 : List SumT := [
  ⟨.exit 0, 0, ⟨[], [], [], [], [], [], [], []⟩, (((.lt (.var 7) (.var (nLk + 0))), true) :: ((.lt (.var (nLk + 0)) (.lit 0)), false) :: ((.lt (.add (.var 7) (.lit 1)) (.var (nLk + 0))), false) :: ((.lt (.var (nLk + 2)) (.lit 0)), false) :: ((.lt (.var (nLk + 2)) (.lit 18446744073709551616)), true) :: ((.lt (.var (nLk + 3)) (.lit 0)), false) :: ((.lt (.var (nLk + 3)) (.lit 18446744073709551616)), true) :: ((.lt (.var (nLk + 4)) (.lit 0)), false) :: ((.lt (.var (nLk + 4)) (.lit 18446744073709551616)), true) :: tLwLk721)⟩]
def sLk72k3c0 : List SumT := [
  ⟨.ret, 1, ⟨[], [], [], [], [], [], [], []⟩, (((.gb 0 qLwLk723 (.lit 0) (.lit 0)), false) :: tLwLk720)⟩,
  ⟨.ret, 1, ⟨[], [], [], [], [], [], [], []⟩, (((.gb 0 qLwLk724 (.lit 0) (.lit 0)), true) :: ((.gb 0 qLwLk723 (.lit 0) (.lit 0)), true) :: tLwLk720)⟩,
  ⟨.normal, 7, ⟨[], [(15, (.gi 10 (.var 1) (.var (nLk + 0)) (.lit 0))), (14, (.lit 0)), (13, (.var (nLk + 13))), (12, (.var (nLk + 12))), (11, (.var (nLk + 11))), (10, (.var (nLk + 10))), (0, (.add (.var (nLk + 0)) (.lit 1)))], [], [], [], [], [], []⟩, (((.lt (.wrap .i64 (.wrap .u64 (.sub (.var (nLk + 2)) (.var (nLk + 3))))) (.lit 1)), false) :: ((.lt (.var (nLk + 0)) (.var 7)), true) :: ((.gb 0 qLwLk724 (.lit 0) (.lit 0)), false) :: ((.gb 0 qLwLk723 (.lit 0) (.lit 0)), true) :: tLwLk720)⟩,
  ⟨.normal, 5, ⟨[], [(4, (.gi 10 (.var 1) (.var (nLk + 0)) (.lit 0))), (3, (.var (nLk + 3))), (2, (.var (nLk + 2))), (13, (.wrap .u64 (.add (.var (nLk + 3)) (.lit 1)))), (12, (.var (nLk + 3))), (11, (.var 0)), (10, (.lit 3)), (0, (.add (.var (nLk + 0)) (.lit 1)))], [], [], [], [], [], []⟩, (((.lt (.wrap .i64 (.wrap .u64 (.sub (.var (nLk + 2)) (.var (nLk + 3))))) (.lit 1)), true) :: ((.lt (.var (nLk + 0)) (.var 7)), true) :: ((.gb 0 qLwLk724 (.lit 0) (.lit 0)), false) :: ((.gb 0 qLwLk723 (.lit 0) (.lit 0)), true) :: tLwLk720)⟩,
  ⟨.normal, 3, ⟨[], [(4, (.var (nLk + 4))), (3, (.var (nLk + 3))), (2, (.var (nLk + 2))), (13, (.var (nLk + 13))), (12, (.var (nLk + 12))), (11, (.var (nLk + 11))), (10, (.var (nLk + 10))), (0, (.add (.var (nLk + 0)) (.lit 1)))], [], [], [], [], [], []⟩, (((.lt (.var (nLk + 0)) (.var 7)), false) :: ((.gb 0 qLwLk724 (.lit 0) (.lit 0)), false) :: ((.gb 0 qLwLk723 (.lit 0) (.lit 0)), true) :: tLwLk720)⟩]
def sLk72k3c1 : List SumT := [
  ⟨.exit 0, 0, ⟨[], [], [], [], [], [], [], []⟩, (((.lt (.var 7) (.var (nLk + 0))), true) :: ((.lt (.var (nLk + 0)) (.lit 0)), false) :: ((.lt (.add (.var 7) (.lit 1)) (.var (nLk + 0))), false) :: ((.lt (.var (nLk + 2)) (.lit 0)), false) :: ((.lt (.var (nLk + 2)) (.lit 18446744073709551616)), true) :: ((.lt (.var (nLk + 3)) (.lit 0)), false) :: ((.lt (.var (nLk + 3)) (.lit 18446744073709551616)), true) :: ((.lt (.var (nLk + 4)) (.lit 0)), false) :: ((.lt (.var (nLk + 4)) (.lit 18446744073709551616)), true) :: tLwLk721)⟩]
def sLk72k4c0 : List SumT := [
  ⟨.ret, 1, ⟨[], [], [], [], [], [], [], []⟩, (((.gb 0 qLwLk723 (.lit 0) (.lit 0)), false) :: tLwLk720)⟩,
  ⟨.ret, 1, ⟨[], [], [], [], [], [], [], []⟩, (((.gb 0 qLwLk724 (.lit 0) (.lit 0)), true) :: ((.gb 0 qLwLk723 (.lit 0) (.lit 0)), true) :: tLwLk720)⟩,
  ⟨.normal, 7, ⟨[], [(15, (.lit 0)), (14, (.lit 5)), (13, (.var (nLk + 13))), (12, (.var (nLk + 12))), (11, (.var (nLk + 11))), (10, (.var (nLk + 10))), (0, (.add (.var (nLk + 0)) (.lit 1)))], [], [], [], [], [], []⟩, (((.lt (.var (nLk + 0)) (.var 7)), true) :: ((.gb 0 qLwLk724 (.lit 0) (.lit 0)), false) :: ((.gb 0 qLwLk723 (.lit 0) (.lit 0)), true) :: tLwLk720)⟩,
  ⟨.normal, 4, ⟨[], [(4, (.var (nLk + 4))), (3, (.var (nLk + 3))), (2, (.var (nLk + 2))), (13, (.var (nLk + 13))), (12, (.var (nLk + 12))), (11, (.var (nLk + 11))), (10, (.var (nLk + 10))), (0, (.add (.var (nLk + 0)) (.lit 1)))], [], [], [], [], [], []⟩, (((.lt (.var (nLk + 0)) (.var 7)), false) :: ((.gb 0 qLwLk724 (.lit 0) (.lit 0)), false) :: ((.gb 0 qLwLk723 (.lit 0) (.lit 0)), true) :: tLwLk720)⟩]
def sLk72k4c1 : List SumT := [
  ⟨.exit 0, 0, ⟨[], [], [], [], [], [], [], []⟩, (((.lt (.var 7) (.var (nLk + 0))), true) :: ((.lt (.var (nLk + 0)) (.lit 0)), false) :: ((.lt (.add (.var 7) (.lit 1)) (.var (nLk + 0))), false) :: ((.lt (.var (nLk + 2)) (.lit 0)), false) :: ((.lt (.var (nLk + 2)) (.lit 18446744073709551616)), true) :: ((.lt (.var (nLk + 3)) (.lit 0)), false) :: ((.lt (.var (nLk + 3)) (.lit 18446744073709551616)), true) :: ((.lt (.var (nLk + 4)) (.lit 0)), false) :: ((.lt (.var (nLk + 4)) (.lit 18446744073709551616)), true) :: tLwLk721)⟩]
def sLk72k5c0 : List SumT := [
  ⟨.ret, 1, ⟨[], [], [], [], [], [], [], []⟩, (((.gb 0 qLwLk723 (.lit 0) (.lit 0)), false) :: ((.gb 11 (.var 1) (.var (nLk + 0)) (.lit 0)), true) :: tLwLk720)⟩,
  ⟨.ret, 1, ⟨[], [], [], [], [], [], [], []⟩, (((.gb 0 qLwLk724 (.lit 0) (.lit 0)), true) :: ((.gb 0 qLwLk723 (.lit 0) (.lit 0)), true) :: ((.gb 11 (.var 1) (.var (nLk + 0)) (.lit 0)), true) :: tLwLk720)⟩,
  ⟨.normal, 6, ⟨[((nLk + 20), zLwLk720)], [(4, (.var (nLk + 4))), (3, (.var (nLk + 3))), (2, (.var (nLk + 2))), (21, (.var zLwLk720)), (13, (.lit 0)), (12, (.wrap .u64 (.add (.var (nLk + 2)) (.lit 1)))), (11, (.add (.var 0) (.lit 1))), (10, (.lit 2)), (0, (.add (.var (nLk + 0)) (.lit 1)))], [], [], [], [((.cons (.var (nLk + 4)) .nil), (.cons (.var (nLk + 4)) .nil))], [], []⟩, (((.lt (.var zLwLk720) (.lit 1)), false) :: ((.lt (.var (nLk + 0)) (.var 7)), true) :: ((.gb 0 qLwLk724 (.lit 0) (.lit 0)), false) :: ((.gb 0 qLwLk723 (.lit 0) (.lit 0)), true) :: ((.gb 11 (.var 1) (.var (nLk + 0)) (.lit 0)), true) :: tLwLk720)⟩,
  ⟨.normal, 5, ⟨[], [(4, (.var (nLk + 4))), (3, (.var (nLk + 3))), (2, (.var (nLk + 2))), (13, (.var (nLk + 13))), (12, (.var (nLk + 12))), (11, (.var (nLk + 11))), (10, (.var (nLk + 10))), (0, (.add (.var (nLk + 0)) (.lit 1)))], [], [], [], [], [], []⟩, (((.lt (.var (nLk + 0)) (.var 7)), false) :: ((.gb 0 qLwLk724 (.lit 0) (.lit 0)), false) :: ((.gb 0 qLwLk723 (.lit 0) (.lit 0)), true) :: ((.gb 11 (.var 1) (.var (nLk + 0)) (.lit 0)), true) :: tLwLk720)⟩]
def sLk72k5c1 : List SumT := [
  ⟨.ret, 1, ⟨[], [], [], [], [], [], [], []⟩, (((.gb 0 qLwLk723 (.lit 0) (.lit 0)), false) :: ((.gb 11 (.var 1) (.var (nLk + 0)) (.lit 0)), false) :: tLwLk720)⟩,
  ⟨.ret, 1, ⟨[], [], [], [], [], [], [], []⟩, (((.gb 0 qLwLk724 (.lit 0) (.lit 0)), true) :: ((.gb 0 qLwLk723 (.lit 0) (.lit 0)), true) :: ((.gb 11 (.var 1) (.var (nLk + 0)) (.lit 0)), false) :: tLwLk720)⟩,
  ⟨.normal, 4, ⟨[], [(4, (.var (nLk + 4))), (3, (.var (nLk + 3))), (2, (.var (nLk + 2))), (13, (.lit 0)), (12, (.wrap .u64 (.add (.var (nLk + 2)) (.lit 1)))), (11, (.add (.var 0) (.lit 1))), (10, (.lit 2)), (0, (.add (.var (nLk + 0)) (.lit 1)))], [], [], [], [], [], []⟩, (((.lt (.var (nLk + 0)) (.var 7)), true) :: ((.gb 0 qLwLk724 (.lit 0) (.lit 0)), false) :: ((.gb 0 qLwLk723 (.lit 0) (.lit 0)), true) :: ((.gb 11 (.var 1) (.var (nLk + 0)) (.lit 0)), false) :: tLwLk720)⟩,
  ⟨.normal, 5, ⟨[], [(4, (.var (nLk + 4))), (3, (.var (nLk + 3))), (2, (.var (nLk + 2))), (13, (.var (nLk + 13))), (12, (.var (nLk + 12))), (11, (.var (nLk + 11))), (10, (.var (nLk + 10))), (0, (.add (.var (nLk + 0)) (.lit 1)))], [], [], [], [], [], []⟩, (((.lt (.var (nLk + 0)) (.var 7)), false) :: ((.gb 0 qLwLk724 (.lit 0) (.lit 0)), false) :: ((.gb 0 qLwLk723 (.lit 0) (.lit 0)), true) :: ((.gb 11 (.var 1) (.var (nLk + 0)) (.lit 0)), false) :: tLwLk720)⟩]
def sLk72k5c2 : List SumT := [
  ⟨.exit 0, 0, ⟨[], [], [], [], [], [], [], []⟩, (((.lt (.var 7) (.var (nLk + 0))), true) :: ((.lt (.var (nLk + 0)) (.lit 0)), false) :: ((.lt (.add (.var 7) (.lit 1)) (.var (nLk + 0))), false) :: ((.lt (.var (nLk + 2)) (.lit 0)), false) :: ((.lt (.var (nLk + 2)) (.lit 18446744073709551616)), true) :: ((.lt (.var (nLk + 3)) (.lit 0)), false) :: ((.lt (.var (nLk + 3)) (.lit 18446744073709551616)), true) :: ((.lt (.var (nLk + 4)) (.lit 0)), false) :: ((.lt (.var (nLk + 4)) (.lit 18446744073709551616)), true) :: tLwLk721)⟩]
def sLk72k6c0 : List SumT := [
  ⟨.ret, 1, ⟨[], [], [], [], [], [], [], []⟩, (((.lt (.var (nLk + 21)) (.lit 1)), false) :: ((.gb 0 qLwLk723 (.lit 0) (.lit 0)), false) :: ((.lt (.var 7) (.var (nLk + 0))), false) :: ((.eq (.var (nLk + 10)) (.gi 15 (.var 2) (.mul (.var (nLk + 0)) (.lit 10)) (.lit 0))), true) :: ((.eq (.var (nLk + 11)) (.gi 15 (.var 2) (.mul (.var (nLk + 0)) (.lit 10)) (.lit 1))), true) :: ((.eq (.var (nLk + 12)) (.gi 15 (.var 2) (.mul (.var (nLk + 0)) (.lit 10)) (.lit 2))), true) :: ((.eq (.var (nLk + 13)) (.gi 15 (.var 2) (.mul (.var (nLk + 0)) (.lit 10)) (.lit 3))), true) :: ((.same (.lit true) (.gb 0 qLwLk723 (.lit 0) (.lit 0))), true) :: ((.same (.lit false) (.gb 0 qLwLk724 (.lit 0) (.lit 0))), true) :: ((.gb 0 qLwLk725 (.lit 0) (.lit 0)), true) :: ((.lt (.var (nLk + 0)) (.lit 0)), false) :: ((.lt (.add (.var 7) (.lit 1)) (.var (nLk + 0))), false) :: ((.lt (.var (nLk + 2)) (.lit 0)), false) :: ((.lt (.var (nLk + 2)) (.lit 18446744073709551616)), true) :: ((.lt (.var (nLk + 3)) (.lit 0)), false) :: ((.lt (.var (nLk + 3)) (.lit 18446744073709551616)), true) :: ((.lt (.var (nLk + 4)) (.lit 0)), false) :: ((.lt (.var (nLk + 4)) (.lit 18446744073709551616)), true) :: tLwLk721)⟩,
  ⟨.ret, 1, ⟨[], [], [], [], [], [], [], []⟩, (((.lt (.var (nLk + 21)) (.lit 1)), false) :: ((.gb 0 qLwLk724 (.lit 0) (.lit 0)), true) :: ((.gb 0 qLwLk723 (.lit 0) (.lit 0)), true) :: ((.lt (.var 7) (.var (nLk + 0))), false) :: ((.eq (.var (nLk + 10)) (.gi 15 (.var 2) (.mul (.var (nLk + 0)) (.lit 10)) (.lit 0))), true) :: ((.eq (.var (nLk + 11)) (.gi 15 (.var 2) (.mul (.var (nLk + 0)) (.lit 10)) (.lit 1))), true) :: ((.eq (.var (nLk + 12)) (.gi 15 (.var 2) (.mul (.var (nLk + 0)) (.lit 10)) (.lit 2))), true) :: ((.eq (.var (nLk + 13)) (.gi 15 (.var 2) (.mul (.var (nLk + 0)) (.lit 10)) (.lit 3))), true) :: ((.same (.lit true) (.gb 0 qLwLk723 (.lit 0) (.lit 0))), true) :: ((.same (.lit false) (.gb 0 qLwLk724 (.lit 0) (.lit 0))), true) :: ((.gb 0 qLwLk725 (.lit 0) (.lit 0)), true) :: ((.lt (.var (nLk + 0)) (.lit 0)), false) :: ((.lt (.add (.var 7) (.lit 1)) (.var (nLk + 0))), false) :: ((.lt (.var (nLk + 2)) (.lit 0)), false) :: ((.lt (.var (nLk + 2)) (.lit 18446744073709551616)), true) :: ((.lt (.var (nLk + 3)) (.lit 0)), false) :: ((.lt (.var (nLk + 3)) (.lit 18446744073709551616)), true) :: ((.lt (.var (nLk + 4)) (.lit 0)), false) :: ((.lt (.var (nLk + 4)) (.lit 18446744073709551616)), true) :: tLwLk721)⟩,
  ⟨.normal, 7, ⟨[], [(15, (.var (nLk + 4))), (14, (.lit 0)), (13, (.var (nLk + 13))), (12, (.var (nLk + 12))), (11, (.var (nLk + 11))), (10, (.var (nLk + 10))), (0, (.add (.var (nLk + 0)) (.lit 1)))], [], [], [], [], [], []⟩, (((.lt (.var (nLk + 21)) (.lit 1)), false) :: ((.lt (.var zLwLk721) (.lit 1)), false) :: ((.lt (.var (nLk + 0)) (.var 7)), true) :: ((.gb 0 qLwLk724 (.lit 0) (.lit 0)), false) :: ((.gb 0 qLwLk723 (.lit 0) (.lit 0)), true) :: ((.lt (.var 7) (.var (nLk + 0))), false) :: ((.eq (.var (nLk + 10)) (.gi 15 (.var 2) (.mul (.var (nLk + 0)) (.lit 10)) (.lit 0))), true) :: ((.eq (.var (nLk + 11)) (.gi 15 (.var 2) (.mul (.var (nLk + 0)) (.lit 10)) (.lit 1))), true) :: ((.eq (.var (nLk + 12)) (.gi 15 (.var 2) (.mul (.var (nLk + 0)) (.lit 10)) (.lit 2))), true) :: ((.eq (.var (nLk + 13)) (.gi 15 (.var 2) (.mul (.var (nLk + 0)) (.lit 10)) (.lit 3))), true) :: ((.same (.lit true) (.gb 0 qLwLk723 (.lit 0) (.lit 0))), true) :: ((.same (.lit false) (.gb 0 qLwLk724 (.lit 0) (.lit 0))), true) :: ((.gb 0 qLwLk725 (.lit 0) (.lit 0)), true) :: ((.lt (.var (nLk + 0)) (.lit 0)), false) :: ((.lt (.add (.var 7) (.lit 1)) (.var (nLk + 0))), false) :: ((.lt (.var (nLk + 2)) (.lit 0)), false) :: ((.lt (.var (nLk + 2)) (.lit 18446744073709551616)), true) :: ((.lt (.var (nLk + 3)) (.lit 0)), false) :: ((.lt (.var (nLk + 3)) (.lit 18446744073709551616)), true) :: ((.lt (.var (nLk + 4)) (.lit 0)), false) :: ((.lt (.var (nLk + 4)) (.lit 18446744073709551616)), true) :: tLwLk721)⟩,
  ⟨.normal, 6, ⟨[((nLk + 20), (nLk + 20))], [(4, (.var (nLk + 4))), (3, (.var (nLk + 3))), (2, (.var (nLk + 2))), (21, (.var (nLk + 21))), (13, (.var (nLk + 13))), (12, (.var (nLk + 12))), (11, (.var (nLk + 11))), (10, (.var (nLk + 10))), (0, (.add (.var (nLk + 0)) (.lit 1)))], [], [], [], [((.cons (.var (nLk + 4)) .nil), (.cons (.var (nLk + 4)) .nil))], [], []⟩, (((.lt (.var (nLk + 21)) (.lit 1)), false) :: ((.lt (.var zLwLk721) (.lit 1)), false) :: ((.lt (.var (nLk + 0)) (.var 7)), false) :: ((.gb 0 qLwLk724 (.lit 0) (.lit 0)), false) :: ((.gb 0 qLwLk723 (.lit 0) (.lit 0)), true) :: ((.lt (.var 7) (.var (nLk + 0))), false) :: ((.eq (.var (nLk + 10)) (.gi 15 (.var 2) (.mul (.var (nLk + 0)) (.lit 10)) (.lit 0))), true) :: ((.eq (.var (nLk + 11)) (.gi 15 (.var 2) (.mul (.var (nLk + 0)) (.lit 10)) (.lit 1))), true) :: ((.eq (.var (nLk + 12)) (.gi 15 (.var 2) (.mul (.var (nLk + 0)) (.lit 10)) (.lit 2))), true) :: ((.eq (.var (nLk + 13)) (.gi 15 (.var 2) (.mul (.var (nLk + 0)) (.lit 10)) (.lit 3))), true) :: ((.same (.lit true) (.gb 0 qLwLk723 (.lit 0) (.lit 0))), true) :: ((.same (.lit false) (.gb 0 qLwLk724 (.lit 0) (.lit 0))), true) :: ((.gb 0 qLwLk725 (.lit 0) (.lit 0)), true) :: ((.lt (.var (nLk + 0)) (.lit 0)), false) :: ((.lt (.add (.var 7) (.lit 1)) (.var (nLk + 0))), false) :: ((.lt (.var (nLk + 2)) (.lit 0)), false) :: ((.lt (.var (nLk + 2)) (.lit 18446744073709551616)), true) :: ((.lt (.var (nLk + 3)) (.lit 0)), false) :: ((.lt (.var (nLk + 3)) (.lit 18446744073709551616)), true) :: ((.lt (.var (nLk + 4)) (.lit 0)), false) :: ((.lt (.var (nLk + 4)) (.lit 18446744073709551616)), true) :: tLwLk721)⟩]
def sLk72k6c1 : List SumT := [
  ⟨.exit 0, 0, ⟨[], [], [], [], [], [], [], []⟩, (((.lt (.var (nLk + 21)) (.lit 1)), false) :: ((.lt (.var 7) (.var (nLk + 0))), true) :: ((.lt (.var (nLk + 0)) (.lit 0)), false) :: ((.lt (.add (.var 7) (.lit 1)) (.var (nLk + 0))), false) :: ((.lt (.var (nLk + 2)) (.lit 0)), false) :: ((.lt (.var (nLk + 2)) (.lit 18446744073709551616)), true) :: ((.lt (.var (nLk + 3)) (.lit 0)), false) :: ((.lt (.var (nLk + 3)) (.lit 18446744073709551616)), true) :: ((.lt (.var (nLk + 4)) (.lit 0)), false) :: ((.lt (.var (nLk + 4)) (.lit 18446744073709551616)), true) :: tLwLk721)⟩]
def sLk72k7c0 : List SumT := [
  ⟨.ret, 1, ⟨[], [], [], [], [], [], [], []⟩, (((.gb 0 qLwLk723 (.lit 0) (.lit 0)), true) :: ((.lt (.var 7) (.var (nLk + 0))), false) :: ((.eq (.lit 0) (.gi 15 (.var 2) (.mul (.var (nLk + 0)) (.lit 10)) (.lit 0))), true) :: ((.eq (.lit 0) (.gi 15 (.var 2) (.mul (.var (nLk + 0)) (.lit 10)) (.lit 1))), true) :: ((.eq (.lit 0) (.gi 15 (.var 2) (.mul (.var (nLk + 0)) (.lit 10)) (.lit 2))), true) :: ((.eq (.lit 0) (.gi 15 (.var 2) (.mul (.var (nLk + 0)) (.lit 10)) (.lit 3))), true) :: ((.same (.lit false) (.gb 0 qLwLk723 (.lit 0) (.lit 0))), true) :: ((.same (.lit true) (.gb 0 qLwLk724 (.lit 0) (.lit 0))), true) :: ((.eq (.var (nLk + 14)) (.gi 15 (.var 2) (.mul (.var (nLk + 0)) (.lit 10)) (.lit 5))), true) :: ((.eq (.var (nLk + 15)) (.gi 15 (.var 2) (.mul (.var (nLk + 0)) (.lit 10)) (.lit 6))), true) :: ((.gb 0 qLwLk726 (.lit 0) (.lit 0)), true) :: ((.gb 0 qLwLk722 (.lit 0) (.lit 0)), true) :: ((.lt (.var (nLk + 0)) (.lit 0)), false) :: ((.lt (.add (.var 7) (.lit 1)) (.var (nLk + 0))), false) :: tLwLk721)⟩,
  ⟨.ret, 1, ⟨[], [], [], [], [], [], [], []⟩, (((.gb 0 qLwLk724 (.lit 0) (.lit 0)), false) :: ((.gb 0 qLwLk723 (.lit 0) (.lit 0)), false) :: ((.lt (.var 7) (.var (nLk + 0))), false) :: ((.eq (.lit 0) (.gi 15 (.var 2) (.mul (.var (nLk + 0)) (.lit 10)) (.lit 0))), true) :: ((.eq (.lit 0) (.gi 15 (.var 2) (.mul (.var (nLk + 0)) (.lit 10)) (.lit 1))), true) :: ((.eq (.lit 0) (.gi 15 (.var 2) (.mul (.var (nLk + 0)) (.lit 10)) (.lit 2))), true) :: ((.eq (.lit 0) (.gi 15 (.var 2) (.mul (.var (nLk + 0)) (.lit 10)) (.lit 3))), true) :: ((.same (.lit false) (.gb 0 qLwLk723 (.lit 0) (.lit 0))), true) :: ((.same (.lit true) (.gb 0 qLwLk724 (.lit 0) (.lit 0))), true) :: ((.eq (.var (nLk + 14)) (.gi 15 (.var 2) (.mul (.var (nLk + 0)) (.lit 10)) (.lit 5))), true) :: ((.eq (.var (nLk + 15)) (.gi 15 (.var 2) (.mul (.var (nLk + 0)) (.lit 10)) (.lit 6))), true) :: ((.gb 0 qLwLk726 (.lit 0) (.lit 0)), true) :: ((.gb 0 qLwLk722 (.lit 0) (.lit 0)), true) :: ((.lt (.var (nLk + 0)) (.lit 0)), false) :: ((.lt (.add (.var 7) (.lit 1)) (.var (nLk + 0))), false) :: tLwLk721)⟩,
  ⟨.normal, 7, ⟨[], [(15, (.var (nLk + 15))), (14, (.var (nLk + 14))), (13, (.var (nLk + 13))), (12, (.var (nLk + 12))), (11, (.var (nLk + 11))), (10, (.var (nLk + 10))), (0, (.add (.var (nLk + 0)) (.lit 1)))], [], [], [], [], [], []⟩, (((.lt (.var (nLk + 0)) (.var 7)), true) :: ((.gb 0 qLwLk724 (.lit 0) (.lit 0)), true) :: ((.gb 0 qLwLk723 (.lit 0) (.lit 0)), false) :: ((.lt (.var 7) (.var (nLk + 0))), false) :: ((.eq (.lit 0) (.gi 15 (.var 2) (.mul (.var (nLk + 0)) (.lit 10)) (.lit 0))), true) :: ((.eq (.lit 0) (.gi 15 (.var 2) (.mul (.var (nLk + 0)) (.lit 10)) (.lit 1))), true) :: ((.eq (.lit 0) (.gi 15 (.var 2) (.mul (.var (nLk + 0)) (.lit 10)) (.lit 2))), true) :: ((.eq (.lit 0) (.gi 15 (.var 2) (.mul (.var (nLk + 0)) (.lit 10)) (.lit 3))), true) :: ((.same (.lit false) (.gb 0 qLwLk723 (.lit 0) (.lit 0))), true) :: ((.same (.lit true) (.gb 0 qLwLk724 (.lit 0) (.lit 0))), true) :: ((.eq (.var (nLk + 14)) (.gi 15 (.var 2) (.mul (.var (nLk + 0)) (.lit 10)) (.lit 5))), true) :: ((.eq (.var (nLk + 15)) (.gi 15 (.var 2) (.mul (.var (nLk + 0)) (.lit 10)) (.lit 6))), true) :: ((.gb 0 qLwLk726 (.lit 0) (.lit 0)), true) :: ((.gb 0 qLwLk722 (.lit 0) (.lit 0)), true) :: ((.lt (.var (nLk + 0)) (.lit 0)), false) :: ((.lt (.add (.var 7) (.lit 1)) (.var (nLk + 0))), false) :: tLwLk721)⟩,
  ⟨.normal, 7, ⟨[], [(15, (.var (nLk + 15))), (14, (.var (nLk + 14))), (13, (.var (nLk + 13))), (12, (.var (nLk + 12))), (11, (.var (nLk + 11))), (10, (.var (nLk + 10))), (0, (.add (.var (nLk + 0)) (.lit 1)))], [], [], [], [], [], []⟩, (((.lt (.var (nLk + 0)) (.var 7)), false) :: ((.gb 0 qLwLk724 (.lit 0) (.lit 0)), true) :: ((.gb 0 qLwLk723 (.lit 0) (.lit 0)), false) :: ((.lt (.var 7) (.var (nLk + 0))), false) :: ((.eq (.lit 0) (.gi 15 (.var 2) (.mul (.var (nLk + 0)) (.lit 10)) (.lit 0))), true) :: ((.eq (.lit 0) (.gi 15 (.var 2) (.mul (.var (nLk + 0)) (.lit 10)) (.lit 1))), true) :: ((.eq (.lit 0) (.gi 15 (.var 2) (.mul (.var (nLk + 0)) (.lit 10)) (.lit 2))), true) :: ((.eq (.lit 0) (.gi 15 (.var 2) (.mul (.var (nLk + 0)) (.lit 10)) (.lit 3))), true) :: ((.same (.lit false) (.gb 0 qLwLk723 (.lit 0) (.lit 0))), true) :: ((.same (.lit true) (.gb 0 qLwLk724 (.lit 0) (.lit 0))), true) :: ((.eq (.var (nLk + 14)) (.gi 15 (.var 2) (.mul (.var (nLk + 0)) (.lit 10)) (.lit 5))), true) :: ((.eq (.var (nLk + 15)) (.gi 15 (.var 2) (.mul (.var (nLk + 0)) (.lit 10)) (.lit 6))), true) :: ((.gb 0 qLwLk726 (.lit 0) (.lit 0)), true) :: ((.gb 0 qLwLk722 (.lit 0) (.lit 0)), true) :: ((.lt (.var (nLk + 0)) (.lit 0)), false) :: ((.lt (.add (.var 7) (.lit 1)) (.var (nLk + 0))), false) :: tLwLk721)⟩]
def sLk72k7c1 : List SumT := [
  ⟨.exit 0, 0, ⟨[], [], [], [], [], [], [], []⟩, (((.lt (.var 7) (.var (nLk + 0))), true) :: ((.lt (.var (nLk + 0)) (.lit 0)), false) :: ((.lt (.add (.var 7) (.lit 1)) (.var (nLk + 0))), false) :: tLwLk721)⟩]
theorem pcLk72_eq : (eLk7 Try.prog 2).pc = pcLk72 := by kernel_rfl
theorem avLk72 : pav nLk (nLk + 64) pcLk72 = true := by kernel_rfl
theorem stLk72_ok : mAll nLk 0 0 Try.prog (eLk7 Try.prog 2).fr (eLk7 Try.prog 2).hp (hdLk7 Try.prog 2 0).fr (hdLk7 Try.prog 2 0).hp = some stLk72 := by kernel_rfl
theorem oneLk72 : (loopsAt Try.prog fLk 4).length = 1 := by kernel_rfl
theorem bLk72k0c0 : sumsLk7 Try.prog 2 0 0 = some sLk72k0c0 := by kernel_rfl
theorem bLk72k0c1 : sumsLk7 Try.prog 2 0 1 = some sLk72k0c1 := by kernel_rfl
theorem bLk72k1c0 : sumsLk7 Try.prog 2 1 0 = some sLk72k1c0 := by kernel_rfl
theorem bLk72k1c1 : sumsLk7 Try.prog 2 1 1 = some sLk72k1c1 := by kernel_rfl
theorem bLk72k2c0 : sumsLk7 Try.prog 2 2 0 = some sLk72k2c0 := by kernel_rfl
theorem bLk72k2c1 : sumsLk7 Try.prog 2 2 1 = some sLk72k2c1 := by kernel_rfl
theorem bLk72k3c0 : sumsLk7 Try.prog 2 3 0 = some sLk72k3c0 := by kernel_rfl
theorem bLk72k3c1 : sumsLk7 Try.prog 2 3 1 = some sLk72k3c1 := by kernel_rfl
theorem bLk72k4c0 : sumsLk7 Try.prog 2 4 0 = some sLk72k4c0 := by kernel_rfl
theorem bLk72k4c1 : sumsLk7 Try.prog 2 4 1 = some sLk72k4c1 := by kernel_rfl
theorem bLk72k5c0 : sumsLk7 Try.prog 2 5 0 = some sLk72k5c0 := by kernel_rfl
theorem bLk72k5c1 : sumsLk7 Try.prog 2 5 1 = some sLk72k5c1 := by kernel_rfl
theorem bLk72k5c2 : sumsLk7 Try.prog 2 5 2 = some sLk72k5c2 := by kernel_rfl
theorem bLk72k6c0 : sumsLk7 Try.prog 2 6 0 = some sLk72k6c0 := by kernel_rfl
theorem bLk72k6c1 : sumsLk7 Try.prog 2 6 1 = some sLk72k6c1 := by kernel_rfl
theorem bLk72k7c0 : sumsLk7 Try.prog 2 7 0 = some sLk72k7c0 := by kernel_rfl
theorem bLk72k7c1 : sumsLk7 Try.prog 2 7 1 = some sLk72k7c1 := by kernel_rfl
theorem hLk72k0 : (hdLk7 Try.prog 2 0).pc = basLk ++ rng7 2 ++ pcLk72 := by kernel_rfl
theorem JS72k0 {ν : Env Gh} {s : A7} {y : Vals Gh} : JS7 2 0 ν s y ↔ s.dn = false ∧ (s.st = 1 ∧ s.won = false) ∧ (rg7 (y.i 2) ∧ rg7 (y.i 3) ∧ rg7 (y.i 4)) ∧ wnt7 (ν.i 0) (ν.i 1) 2 0 s = (y.i 10, y.i 11, y.i 12, y.i 13) := Iff.rfl
theorem hLk72k1 : (hdLk7 Try.prog 2 1).pc = basLk ++ rng7 2 ++ pcLk72 := by kernel_rfl
theorem JS72k1 {ν : Env Gh} {s : A7} {y : Vals Gh} : JS7 2 1 ν s y ↔ s.dn = false ∧ (s.st = 2 ∧ s.won = false ∧ s.b = y.i 2) ∧ (rg7 (y.i 2) ∧ rg7 (y.i 3) ∧ rg7 (y.i 4)) ∧ wnt7 (ν.i 0) (ν.i 1) 2 0 s = (y.i 10, y.i 11, y.i 12, y.i 13) := Iff.rfl
theorem hLk72k2 : (hdLk7 Try.prog 2 2).pc = basLk ++ rng7 2 ++ pcLk72 := by kernel_rfl
theorem JS72k2 {ν : Env Gh} {s : A7} {y : Vals Gh} : JS7 2 2 ν s y ↔ s.dn = false ∧ (s.st = 3 ∧ s.won = false ∧ s.b = y.i 2) ∧ (rg7 (y.i 2) ∧ rg7 (y.i 3) ∧ rg7 (y.i 4)) ∧ wnt7 (ν.i 0) (ν.i 1) 2 0 s = (y.i 10, y.i 11, y.i 12, y.i 13) := Iff.rfl
theorem hLk72k3 : (hdLk7 Try.prog 2 3).pc = basLk ++ rng7 2 ++ pcLk72 := by kernel_rfl
theorem JS72k3 {ν : Env Gh} {s : A7} {y : Vals Gh} : JS7 2 3 ν s y ↔ s.dn = false ∧ (s.st = 4 ∧ s.won = false ∧ s.b = y.i 2 ∧ s.t = y.i 3 ∧ 0 ≤ IntKind.i64.wrap (y.i 2 - y.i 3)) ∧ (rg7 (y.i 2) ∧ rg7 (y.i 3) ∧ rg7 (y.i 4)) ∧ wnt7 (ν.i 0) (ν.i 1) 2 0 s = (y.i 10, y.i 11, y.i 12, y.i 13) := Iff.rfl
theorem hLk72k4 : (hdLk7 Try.prog 2 4).pc = basLk ++ rng7 2 ++ pcLk72 := by kernel_rfl
theorem JS72k4 {ν : Env Gh} {s : A7} {y : Vals Gh} : JS7 2 4 ν s y ↔ s.dn = false ∧ (s.won = false ∧ ((s.st = 4 ∧ s.ahead < 0) ∨ s.st = 6)) ∧ (rg7 (y.i 2) ∧ rg7 (y.i 3) ∧ rg7 (y.i 4)) ∧ wnt7 (ν.i 0) (ν.i 1) 2 0 s = (y.i 10, y.i 11, y.i 12, y.i 13) := Iff.rfl
theorem hLk72k5 : (hdLk7 Try.prog 2 5).pc = basLk ++ rng7 2 ++ pcLk72 := by kernel_rfl
theorem JS72k5 {ν : Env Gh} {s : A7} {y : Vals Gh} : JS7 2 5 ν s y ↔ s.dn = false ∧ (s.st = 5 ∧ s.won = false ∧ s.b = y.i 2 ∧ s.x = y.i 4) ∧ (rg7 (y.i 2) ∧ rg7 (y.i 3) ∧ rg7 (y.i 4)) ∧ wnt7 (ν.i 0) (ν.i 1) 2 0 s = (y.i 10, y.i 11, y.i 12, y.i 13) := Iff.rfl
theorem hLk72k6 : (hdLk7 Try.prog 2 6).pc = basLk ++ rng7 2 ++ pcLk72 := by kernel_rfl
theorem JS72k6 {ν : Env Gh} {s : A7} {y : Vals Gh} : JS7 2 6 ν s y ↔ s.dn = false ∧ (s.st = 6 ∧ s.won = true ∧ s.x = y.i 4) ∧ (rg7 (y.i 2) ∧ rg7 (y.i 3) ∧ rg7 (y.i 4)) ∧ wnt7 (ν.i 0) (ν.i 1) 2 0 s = (y.i 10, y.i 11, y.i 12, y.i 13) := Iff.rfl
theorem hLk72k7 : (hdLk7 Try.prog 2 7).pc = basLk ++ pcLk72 := by kernel_rfl
theorem JS72k7 {ν : Env Gh} {s : A7} {y : Vals Gh} : JS7 2 7 ν s y ↔ s.dn = true ∧ s.cd = y.i 14 ∧ s.v = y.i 15 := Iff.rfl
end Go.Proofs.Ytlmenjenkpnacaa
end

section
namespace Go.Proofs.Ytlmenjenkpnacaa
open Go Go.Sy Go.RowKit

theorem oL7_ok72 : OOK Try.prog (oL7 Try.prog) inM := pruned_ok pr (sameN_ok (opStoreB_ok pr (opCap_ok (opLoadSt_ok (opAppS_ok (opLoadS_ok (opNilZ_ok (opAppendR_ok pr (opAppendW_ok (opSliceV_ok pr (opSliceT_ok qO_ok)))))))))))
structure FLk72 (ν : Env Gh) : Prop where
  len0 : 0 ≤ ν.i 7
  len1 : ν.i 7 ≤ 200
  told : ∀ j, 0 ≤ (tolds (ν.g 1).t j).1 ∧ (tolds (ν.g 1).t j).1 < 18446744073709551616
  seen : nG (ν.g 2) = (se7 2 ν (ν.g 1).t (ν.i 7 + 1).toNat).map SC.nums
  a0 : 0 ≤ ν.i 0
  a1 : ν.i 0 < 65535 - 1 * ν.i 1
  n1 : 2 ≤ ν.i 1
  n2 : ν.i 1 ≤ 256
  pw : Pow (ν.i 1)
theorem factsLk72 {ν : Env Gh} (hI : ν.I = inM) (h : pcDen ν pcLk72) : FLk72 ν := by
  have h2 := h
  simp only [pcLk72, qLwLk720, tLwLk721, qLwLk721, pcDen_cons_iff, pcDen_nil_iff] at h2
  have h8 : (SB.gb 0 (.app 83 (.var 1) (.var 0) (.lit 0) (.lit 0) (.lit 0) (.lit 0) .nil) (.lit 0) (.lit 0)).den ν = true := pcAt h 10 rfl
  rw [x83 hI] at h8
  have h0 : (seen7B 2 (beg7 2)).den ν = true := pcAt h 0 rfl
  simp only [seen7B, SB.den, SG.den, SI.den, hI, inM, xga, SL.den] at h0
  have h1 : (nG (ν.g 2) == List.map SC.nums (seen7 ((beg7 2).den ν) (ν.g 1).t (ν.i 7 + 1).toNat)) = true := h0
  rw [se7_eq ν (by decide)] at h1
  have hpw : (powB (.var 1)).den ν = true := pcAt h 6 rfl
  rw [powB_den] at hpw
  have h3 := h2.2.2
  simp only [SB.den, decide_eq_true_eq, decide_eq_false_iff_not] at h3
  simp only [SI.den] at h3
  exact ⟨by omega, by omega, fun j => tolds_u64 h8 j, eq_of_beq h1, by omega, by omega, by omega, by omega, hpw⟩
attribute [local irreducible] nmAt
theorem hpdLk72 {ν : Env Gh} (hI : ν.I = inM) (h : pcDen ν pcLk72) {k : Nat} (hk : k < 8) {x : Vals Gh} (hJ : JL7 2 k ν x) : pcDen (ν.at nLk x) (hdLk7 Try.prog 2 k).pc := by
  have rf : RF nLk ν x (ν.at nLk x) := RF.self rfl
  have F := factsLk72 hI h
  have F0 := F.len0
  have F1 := F.len1
  have hold : pcDen (ν.at nLk x) pcLk72 := pcDen_agree (at_agree (ρ := fun _ => 0) (ρ' := fun _ => 0) (fun _ _ => rfl)) avLk72 h
  have r0 : (ν.at nLk x).i nLk = x.i 0 := rf.i 0 (by decide)
  obtain ⟨j0, j1, j2⟩ := hJ
  have hbas : pcDen (ν.at nLk x) basLk := by
    refine pcDen_cons (lt_of ?_) (pcDen_one (lt_of ?_))
    · simp only [SI.den, r0, Bool.false_eq_true, iff_false]; omega
    · simp only [SI.den, r0, rf.io 7 (by decide), Bool.false_eq_true, iff_false]; omega
  have u1 : ∀ m : Nat, m < 64 → rg7 (x.i m) → pcDen (ν.at nLk x) (u64C (.var (nLk + m))) := fun m hm r => by
    refine pcDen_cons (lt_of ?_) (pcDen_one (lt_of ?_))
    · simp only [SI.den, rf.i m hm, Bool.false_eq_true, iff_false]; have := r.1; omega
    · simp only [SI.den, rf.i m hm, iff_true]; have := r.2; omega
  match k, hk with
  | 0, _ =>
    obtain ⟨_, _, ⟨r2, r3, r4⟩, _⟩ := JS72k0.1 j2
    rw [hLk72k0]
    exact pcDen_append (pcDen_append hbas (pcDen_append (pcDen_append (u1 2 (by decide) r2) (u1 3 (by decide) r3)) (u1 4 (by decide) r4))) hold
  | 1, _ =>
    obtain ⟨_, _, ⟨r2, r3, r4⟩, _⟩ := JS72k1.1 j2
    rw [hLk72k1]
    exact pcDen_append (pcDen_append hbas (pcDen_append (pcDen_append (u1 2 (by decide) r2) (u1 3 (by decide) r3)) (u1 4 (by decide) r4))) hold
  | 2, _ =>
    obtain ⟨_, _, ⟨r2, r3, r4⟩, _⟩ := JS72k2.1 j2
    rw [hLk72k2]
    exact pcDen_append (pcDen_append hbas (pcDen_append (pcDen_append (u1 2 (by decide) r2) (u1 3 (by decide) r3)) (u1 4 (by decide) r4))) hold
  | 3, _ =>
    obtain ⟨_, _, ⟨r2, r3, r4⟩, _⟩ := JS72k3.1 j2
    rw [hLk72k3]
    exact pcDen_append (pcDen_append hbas (pcDen_append (pcDen_append (u1 2 (by decide) r2) (u1 3 (by decide) r3)) (u1 4 (by decide) r4))) hold
  | 4, _ =>
    obtain ⟨_, _, ⟨r2, r3, r4⟩, _⟩ := JS72k4.1 j2
    rw [hLk72k4]
    exact pcDen_append (pcDen_append hbas (pcDen_append (pcDen_append (u1 2 (by decide) r2) (u1 3 (by decide) r3)) (u1 4 (by decide) r4))) hold
  | 5, _ =>
    obtain ⟨_, _, ⟨r2, r3, r4⟩, _⟩ := JS72k5.1 j2
    rw [hLk72k5]
    exact pcDen_append (pcDen_append hbas (pcDen_append (pcDen_append (u1 2 (by decide) r2) (u1 3 (by decide) r3)) (u1 4 (by decide) r4))) hold
  | 6, _ =>
    obtain ⟨_, _, ⟨r2, r3, r4⟩, _⟩ := JS72k6.1 j2
    rw [hLk72k6]
    exact pcDen_append (pcDen_append hbas (pcDen_append (pcDen_append (u1 2 (by decide) r2) (u1 3 (by decide) r3)) (u1 4 (by decide) r4))) hold
  | 7, _ => rw [hLk72k7]; exact pcDen_append hbas hold
theorem nxLk72 {ν : Env Gh} (hI : ν.I = inM) (h : pcDen ν pcLk72) {x y : Vals Gh} {k : Nat} (hk : k < 8) {g : Tgt} (hg : (headsLk7 Try.prog 2)[k]? = some g) (j0 : 0 ≤ x.i 0) (hle : x.i 0 ≤ ν.i 7) (y0 : y.i 0 = x.i 0 + 1)
    (hS : JS7 2 k ν (if x.i 0 < ν.i 7 then st7 2 ν (it7 2 ν (ν.g 1).t (x.i 0).toNat) (tolds (ν.g 1).t (x.i 0).toNat).1 (tolds (ν.g 1).t (x.i 0).toNat).2 else it7 2 ν (ν.g 1).t (x.i 0).toNat) y) {Ow : Prop} (ho : Ow) :
    JL7 2 k ν y ∧ pcDen (ν.at nLk y) g.pc ∧ (ν.i 7 + 2 - y.i 0).toNat < (ν.i 7 + 2 - x.i 0).toNat ∧ Ow := by
  have hJ : JL7 2 k ν y := by
    refine ⟨by omega, by omega, ?_⟩
    rw [y0, it7_next _ _ _ j0 hle]
    exact hS
  have e : g = hdLk7 Try.prog 2 k := by unfold hdLk7 hdAt; rw [hg]; rfl
  refine ⟨hJ, ?_, by omega, ho⟩
  rw [e]
  exact hpdLk72 hI h hk hJ
theorem loopLk72 {O' : Orac} (oo' : OOK Try.prog O' inM) : OOK Try.prog (O'.withLoop fLk 4 nLk (eLk7 Try.prog 2).fr (eLk7 Try.prog 2).hp (mkM nLk (gLk (eLk7 Try.prog 2).fr) (bdLk7 Try.prog 2))) inM := by
  have hb : ∀ {ν : Env Gh}, (∀ x ∈ bdLk7 Try.prog 2, x.1.den ν ≠ x.2) → pcDen ν pcLk72 := fun h => by unfold bdLk7 at h; rw [pcLk72_eq] at h; exact bads_of h
  refine loopC_ok pr oL7_ok72 (rfl : nLk = nmAt 4) (by decide +kernel) oneLk72 (heads := headsLk7 Try.prog 2) (tg := gLk (eLk7 Try.prog 2).fr) (sums := [[(caseA .nil, sLk72k0c0), (caseB, sLk72k0c1)], [(caseA .nil, sLk72k1c0), (caseB, sLk72k1c1)], [(caseA .nil, sLk72k2c0), (caseB, sLk72k2c1)], [(caseA .nil, sLk72k3c0), (caseB, sLk72k3c1)], [(caseA .nil, sLk72k4c0), (caseB, sLk72k4c1)], [((wonL, true) :: caseA .nil, sLk72k5c0), ((wonL, false) :: caseA .nil, sLk72k5c1), (caseB, sLk72k5c2)], [(caseA (.cons (.var (nLk + 4)) .nil), sLk72k6c0), (caseB, sLk72k6c1)], [(caseE, sLk72k7c0), (caseB, sLk72k7c1)]]) (start := stLk72) (h0 := hdLk7 Try.prog 2 0) (n := 6000) (it := 0) (ghL []) rfl ?_ rfl stLk72_ok (JL7 2) (fun _ ν x => (ν.i 7 + 2 - x.i 0).toNat) ?_ ?_ ?_ oo'
  · intro i h ss hh hs c hc
    match i, hh, hs with
    | 0, hh, hs =>
      cases hs
      have e : h = hdLk7 Try.prog 2 0 := by unfold hdLk7 hdAt; rw [hh]; rfl
      subst e
      simp only [List.mem_cons, List.not_mem_nil, or_false] at hc
      rcases hc with rfl | rfl
      · exact bLk72k0c0
      · exact bLk72k0c1
    | 1, hh, hs =>
      cases hs
      have e : h = hdLk7 Try.prog 2 1 := by unfold hdLk7 hdAt; rw [hh]; rfl
      subst e
      simp only [List.mem_cons, List.not_mem_nil, or_false] at hc
      rcases hc with rfl | rfl
      · exact bLk72k1c0
      · exact bLk72k1c1
    | 2, hh, hs =>
      cases hs
      have e : h = hdLk7 Try.prog 2 2 := by unfold hdLk7 hdAt; rw [hh]; rfl
      subst e
      simp only [List.mem_cons, List.not_mem_nil, or_false] at hc
      rcases hc with rfl | rfl
      · exact bLk72k2c0
      · exact bLk72k2c1
    | 3, hh, hs =>
      cases hs
      have e : h = hdLk7 Try.prog 2 3 := by unfold hdLk7 hdAt; rw [hh]; rfl
      subst e
      simp only [List.mem_cons, List.not_mem_nil, or_false] at hc
      rcases hc with rfl | rfl
      · exact bLk72k3c0
      · exact bLk72k3c1
    | 4, hh, hs =>
      cases hs
      have e : h = hdLk7 Try.prog 2 4 := by unfold hdLk7 hdAt; rw [hh]; rfl
      subst e
      simp only [List.mem_cons, List.not_mem_nil, or_false] at hc
      rcases hc with rfl | rfl
      · exact bLk72k4c0
      · exact bLk72k4c1
    | 5, hh, hs =>
      cases hs
      have e : h = hdLk7 Try.prog 2 5 := by unfold hdLk7 hdAt; rw [hh]; rfl
      subst e
      simp only [List.mem_cons, List.not_mem_nil, or_false] at hc
      rcases hc with rfl | rfl | rfl
      · exact bLk72k5c0
      · exact bLk72k5c1
      · exact bLk72k5c2
    | 6, hh, hs =>
      cases hs
      have e : h = hdLk7 Try.prog 2 6 := by unfold hdLk7 hdAt; rw [hh]; rfl
      subst e
      simp only [List.mem_cons, List.not_mem_nil, or_false] at hc
      rcases hc with rfl | rfl
      · exact bLk72k6c0
      · exact bLk72k6c1
    | 7, hh, hs =>
      cases hs
      have e : h = hdLk7 Try.prog 2 7 := by unfold hdLk7 hdAt; rw [hh]; rfl
      subst e
      simp only [List.mem_cons, List.not_mem_nil, or_false] at hc
      rcases hc with rfl | rfl
      · exact bLk72k7c0
      · exact bLk72k7c1
    | m + 8, hh, hs => cases hs
  · intro ν hI hbd
    have hp' := hb hbd
    have F := factsLk72 hI hp'
    have F0 := F.len0
    generalize hy : stLk72.vals (ghL []) ν = y
    have y0 : y.i 0 = 0 := by rw [← hy]; simp only [stLk72, Mt.vals, lkp_cons, lkp_nil, Nat.reduceEqDiff, reduceIte, SI.den]
    have hJ : JL7 2 0 ν y := by
      refine ⟨by omega, by omega, ?_⟩
      have em : (min (y.i 0) (ν.i 7)).toNat = 0 := by omega
      rw [em]
      refine JS72k0.2 ?_
      simp only [← hy]
      simp [stLk72, Mt.vals, lkp_cons, lkp_nil, SI.den, it7, iterS, s7, dn7_0, dn7_1, dn7_2, dn7_3, wnt7, rg7]
    exact ⟨hJ, hpdLk72 hI hp' (by decide) hJ, by constructor <;> simp [stLk72]⟩
  · intro i h ss hh hs ν x hI hbd hJ _
    have hp' := hb hbd
    have F := factsLk72 hI hp'
    have F0 := F.len0
    have rf : RF nLk ν x (ν.at nLk x) := RF.self rfl
    have r0 : (ν.at nLk x).i nLk = x.i 0 := rf.i 0 (by decide)
    have r7 : (ν.at nLk x).i 7 = ν.i 7 := rf.io 7 (by decide)
    have r3 : (ν.at nLk x).i 3 = ν.i 3 := rf.io 3 (by decide)
    have r4 : (ν.at nLk x).i (nLk + 4) = x.i 4 := rf.i 4 (by decide)
    obtain ⟨j0, j1, j2⟩ := hJ
    by_cases hle : x.i 0 ≤ ν.i 7
    · have em : (min (x.i 0) (ν.i 7)).toNat = (x.i 0).toNat := by omega
      rw [em] at j2
      have hr : ∀ j : Int, 0 ≤ j → j < 10 → (getC ((ν.at nLk x).g 2).s ((ν.at nLk x).i nLk * 10 + j)).x = (getC (ob7 2 ν (it7 2 ν (ν.g 1).t (x.i 0).toNat)) j).x ∧ (getC ((ν.at nLk x).g 2).s ((ν.at nLk x).i nLk * 10 + j)).l = (getC (ob7 2 ν (it7 2 ν (ν.g 1).t (x.i 0).toNat)) j).l := fun j a b => by
        rw [rf.go 2 (by decide), r0]
        exact rows7R F.seen j0 (by omega) j a b
      match i, hs with
      | 0, hs =>
        cases hs
        obtain ⟨d1, ⟨e1, e2⟩, d7, d8⟩ := JS72k0.1 j2
        have hA : pcDen (ν.at nLk x) (caseA .nil) := by
          refine caseA_den (rf.I.trans hI) hr rfl (by rw [r0, r7]; exact hle) ?_
          unfold ob7
          rw [obs7_live d1, show wnt7 (p7 2 (ν.i 0)) (p7 2 (ν.i 1)) (kI 2) (tk7 2 (ν.i 3)) (it7 2 ν (ν.g 1).t (x.i 0).toNat) = _ from d8, rf.i 10 (by decide), rf.i 11 (by decide), rf.i 12 (by decide), rf.i 13 (by decide)]
          simp [hel7, kI, tk7, e1, SL.den, SI.den, r3, r4]
        exact ⟨_, List.mem_cons_self .., hA⟩
      | 1, hs =>
        cases hs
        obtain ⟨d1, ⟨e1, e2, e3⟩, d7, d8⟩ := JS72k1.1 j2
        have hA : pcDen (ν.at nLk x) (caseA .nil) := by
          refine caseA_den (rf.I.trans hI) hr rfl (by rw [r0, r7]; exact hle) ?_
          unfold ob7
          rw [obs7_live d1, show wnt7 (p7 2 (ν.i 0)) (p7 2 (ν.i 1)) (kI 2) (tk7 2 (ν.i 3)) (it7 2 ν (ν.g 1).t (x.i 0).toNat) = _ from d8, rf.i 10 (by decide), rf.i 11 (by decide), rf.i 12 (by decide), rf.i 13 (by decide)]
          simp [hel7, kI, tk7, e1, SL.den, SI.den, r3, r4]
        exact ⟨_, List.mem_cons_self .., hA⟩
      | 2, hs =>
        cases hs
        obtain ⟨d1, ⟨e1, e2, e3⟩, d7, d8⟩ := JS72k2.1 j2
        have hA : pcDen (ν.at nLk x) (caseA .nil) := by
          refine caseA_den (rf.I.trans hI) hr rfl (by rw [r0, r7]; exact hle) ?_
          unfold ob7
          rw [obs7_live d1, show wnt7 (p7 2 (ν.i 0)) (p7 2 (ν.i 1)) (kI 2) (tk7 2 (ν.i 3)) (it7 2 ν (ν.g 1).t (x.i 0).toNat) = _ from d8, rf.i 10 (by decide), rf.i 11 (by decide), rf.i 12 (by decide), rf.i 13 (by decide)]
          simp [hel7, kI, tk7, e1, SL.den, SI.den, r3, r4]
        exact ⟨_, List.mem_cons_self .., hA⟩
      | 3, hs =>
        cases hs
        obtain ⟨d1, ⟨e1, e2, e3, e4, e5⟩, d7, d8⟩ := JS72k3.1 j2
        have hA : pcDen (ν.at nLk x) (caseA .nil) := by
          refine caseA_den (rf.I.trans hI) hr rfl (by rw [r0, r7]; exact hle) ?_
          unfold ob7
          rw [obs7_live d1, show wnt7 (p7 2 (ν.i 0)) (p7 2 (ν.i 1)) (kI 2) (tk7 2 (ν.i 3)) (it7 2 ν (ν.g 1).t (x.i 0).toNat) = _ from d8, rf.i 10 (by decide), rf.i 11 (by decide), rf.i 12 (by decide), rf.i 13 (by decide)]
          simp [hel7, kI, tk7, e1, SL.den, SI.den, r3, r4]
        exact ⟨_, List.mem_cons_self .., hA⟩
      | 4, hs =>
        cases hs
        obtain ⟨d1, ⟨e2, e1⟩, d7, d8⟩ := JS72k4.1 j2
        have hA : pcDen (ν.at nLk x) (caseA .nil) := by
          refine caseA_den (rf.I.trans hI) hr rfl (by rw [r0, r7]; exact hle) ?_
          unfold ob7
          rw [obs7_live d1, show wnt7 (p7 2 (ν.i 0)) (p7 2 (ν.i 1)) (kI 2) (tk7 2 (ν.i 3)) (it7 2 ν (ν.g 1).t (x.i 0).toNat) = _ from d8, rf.i 10 (by decide), rf.i 11 (by decide), rf.i 12 (by decide), rf.i 13 (by decide)]
          rcases e1 with ⟨e1, _⟩ | e1 <;> simp [hel7, kI, tk7, e1, SL.den, SI.den, r3, r4, e2]
        exact ⟨_, List.mem_cons_self .., hA⟩
      | 5, hs =>
        cases hs
        obtain ⟨d1, ⟨e1, e2, e3, e4⟩, d7, d8⟩ := JS72k5.1 j2
        have hA : pcDen (ν.at nLk x) (caseA .nil) := by
          refine caseA_den (rf.I.trans hI) hr rfl (by rw [r0, r7]; exact hle) ?_
          unfold ob7
          rw [obs7_live d1, show wnt7 (p7 2 (ν.i 0)) (p7 2 (ν.i 1)) (kI 2) (tk7 2 (ν.i 3)) (it7 2 ν (ν.g 1).t (x.i 0).toNat) = _ from d8, rf.i 10 (by decide), rf.i 11 (by decide), rf.i 12 (by decide), rf.i 13 (by decide)]
          simp [hel7, kI, tk7, e1, SL.den, SI.den, r3, r4]
        cases hw : wonL.den (ν.at nLk x) with
        | true => exact ⟨_, List.mem_cons_self .., pcDen_cons hw hA⟩
        | false => exact ⟨_, List.mem_cons_of_mem _ (List.mem_cons_self ..), pcDen_cons hw hA⟩
      | 6, hs =>
        cases hs
        obtain ⟨d1, ⟨e1, e2, e3⟩, d7, d8⟩ := JS72k6.1 j2
        have hA : pcDen (ν.at nLk x) (caseA (.cons (.var (nLk + 4)) .nil)) := by
          refine caseA_den (rf.I.trans hI) hr rfl (by rw [r0, r7]; exact hle) ?_
          unfold ob7
          rw [obs7_live d1, show wnt7 (p7 2 (ν.i 0)) (p7 2 (ν.i 1)) (kI 2) (tk7 2 (ν.i 3)) (it7 2 ν (ν.g 1).t (x.i 0).toNat) = _ from d8, rf.i 10 (by decide), rf.i 11 (by decide), rf.i 12 (by decide), rf.i 13 (by decide)]
          simp [hel7, kI, tk7, e1, SL.den, SI.den, r3, r4, e2, e3]
        exact ⟨_, List.mem_cons_self .., hA⟩
      | 7, hs =>
        cases hs
        obtain ⟨d1, d2, d3⟩ := JS72k7.1 j2
        refine ⟨_, List.mem_cons_self .., caseE_den (rf.I.trans hI) hr (by rw [r0, r7]; exact hle) ?_⟩
        unfold ob7
        rw [obs7_dead d1, d2, d3, rf.i 14 (by decide), rf.i 15 (by decide)]
      | m + 8, hs => cases hs
    · have hB : pcDen (ν.at nLk x) caseB := pcDen_one (lt_of (by simp only [SI.den, r0, r7, iff_true]; omega))
      match i, hs with
      | 0, hs => cases hs; exact ⟨_, List.mem_cons_of_mem _ (List.mem_cons_self ..), hB⟩
      | 1, hs => cases hs; exact ⟨_, List.mem_cons_of_mem _ (List.mem_cons_self ..), hB⟩
      | 2, hs => cases hs; exact ⟨_, List.mem_cons_of_mem _ (List.mem_cons_self ..), hB⟩
      | 3, hs => cases hs; exact ⟨_, List.mem_cons_of_mem _ (List.mem_cons_self ..), hB⟩
      | 4, hs => cases hs; exact ⟨_, List.mem_cons_of_mem _ (List.mem_cons_self ..), hB⟩
      | 5, hs => cases hs; exact ⟨_, List.mem_cons_of_mem _ (List.mem_cons_of_mem _ (List.mem_cons_self ..)), hB⟩
      | 6, hs => cases hs; exact ⟨_, List.mem_cons_of_mem _ (List.mem_cons_self ..), hB⟩
      | 7, hs => cases hs; exact ⟨_, List.mem_cons_of_mem _ (List.mem_cons_self ..), hB⟩
      | m + 8, hs => cases hs
  · intro i h ss hh hs c hc t ht ν x ν2 hI hbd hJ hpch _ rf hpc
    have hp' := hb hbd
    have F := factsLk72 hI hp'
    have F0 := F.len0
    have F1 := F.len1
    have F_len0 := F.len0
    have F_len1 := F.len1
    have F_a0 := F.a0
    have F_a1 := F.a1
    have F_n1 := F.n1
    have F_n2 := F.n2
    have F_pw := F.pw
    have hI2 : ν2.I = inM := rf.I.trans hI
    have qa : ν2.i 0 = ν.i 0 := rf.io 0 (by decide)
    have qn : ν2.i 1 = ν.i 1 := rf.io 1 (by decide)
    have qc : ν2.i 3 = ν.i 3 := rf.io 3 (by decide)
    have q7 : ν2.i 7 = ν.i 7 := rf.io 7 (by decide)
    have qg : ν2.g 1 = ν.g 1 := rf.go 1 (by decide)
    have q0 : ν2.i (nLk + 0) = x.i 0 := rf.i 0 (by decide)
    have q2 : ν2.i (nLk + 2) = x.i 2 := rf.i 2 (by decide)
    have q3 : ν2.i (nLk + 3) = x.i 3 := rf.i 3 (by decide)
    have q4 : ν2.i (nLk + 4) = x.i 4 := rf.i 4 (by decide)
    have q10 : ν2.i (nLk + 10) = x.i 10 := rf.i 10 (by decide)
    have q11 : ν2.i (nLk + 11) = x.i 11 := rf.i 11 (by decide)
    have q12 : ν2.i (nLk + 12) = x.i 12 := rf.i 12 (by decide)
    have q13 : ν2.i (nLk + 13) = x.i 13 := rf.i 13 (by decide)
    have q14 : ν2.i (nLk + 14) = x.i 14 := rf.i 14 (by decide)
    have q15 : ν2.i (nLk + 15) = x.i 15 := rf.i 15 (by decide)
    obtain ⟨j0, j1, j2⟩ := hJ
    have T0 := F.told (x.i 0).toNat
    match i, hh, hs with
    | 0, hh, hs =>
      cases hs
      simp only [List.mem_cons, List.not_mem_nil, or_false] at hc
      rcases hc with rfl | rfl
      · simp only [sLk72k0c0, tLwLk720, qLwLk720, qLwLk721, qLwLk722, qLwLk723, qLwLk724, List.mem_cons, List.not_mem_nil, or_false] at ht
        rcases ht with rfl | rfl | rfl | rfl
        iterate 2 (exfalso; first | exact ab2 hpc 0 6 rfl rfl rfl | exact ab2 hpc 0 8 rfl rfl rfl | exact ab2 hpc 1 7 rfl rfl rfl | exact ab2 hpc 1 9 rfl rfl rfl | exact ab2 hpc 0 7 rfl rfl rfl | exact ab2 hpc 0 9 rfl rfl rfl)
        all_goals
          intro g hg
          dsimp only at hg ⊢
          simp only [pcDen_cons_iff, pcDen_nil_iff, SB.den, decide_eq_true_eq, decide_eq_false_iff_not, beq_iff_eq, beq_eq_false_iff_ne] at hpc
          simp only [SI.den, SG.den, gi10u hI2, gb11u hI2, q7, qn, qa, qg, q0, q2, q3, w64_64] at hpc
          have hle : x.i 0 ≤ ν.i 7 := by omega
          have em : (min (x.i 0) (ν.i 7)).toNat = (x.i 0).toNat := by omega
          rw [em] at j2
          generalize hy : Mt.vals _ (ghL []) ν2 = y
          have y0 : y.i 0 = x.i 0 + 1 := by rw [← hy]; simp only [Mt.vals, lkp_cons, lkp_nil, Nat.reduceEqDiff, reduceIte, SI.den, q0]
          refine nxLk72 hI hp' (by decide) hg j0 hle y0 ?_ (by constructor <;> simp)
        · rw [if_pos (by omega)]
          generalize it7 2 ν (ν.g 1).t (x.i 0).toNat = S at j2 ⊢
          obtain ⟨st, b, t, xx, wn, dn', cd, v⟩ := S
          obtain ⟨d1, ⟨e1, e2⟩, ⟨r2, r3, r4⟩, d8⟩ := JS72k0.1 j2
          dsimp only at *
          subst d1
          skip
          all_goals
            subst e1
            subst e2
            have mk2 := mask_modK (x.i 2) (ν.i 1) F.pw r2.1 r2.2
            skip
            have hw := d8
            refine JS72k1.2 ?_
            simp only [← hy, Mt.vals, lkp_cons, lkp_nil, Nat.reduceEqDiff, reduceIte, SI.den, SG.den, gi10u hI2, gb11u hI2, qa, qn, qc, qg, q0, q2, q3, q4, q10, q11, q12, q13, mk2, IntKind.wrap_u64]
            generalize tolds (ν.g 1).t (x.i 0).toNat = T at hpc T0 ⊢
            obtain ⟨tv, tw⟩ := T
            dsimp only at hpc T0 ⊢
            cases tw <;> first
              | (exfalso; omega)
              | (exfalso; simp at hpc; done)
              | (simp [st7, p7, tk7, kI, A7.step, A7.fin, A7.ahead, wnt7]; done)
              | (simp [st7, p7, tk7, kI, A7.step, A7.fin, A7.ahead, wnt7] <;> omega)
              | (simp [st7, p7, tk7, kI, A7.step, A7.fin, A7.ahead, wnt7]; simp [wnt7, A7.ahead] at hw; omega)
        · rw [if_neg (by omega)]
          refine JS72k0.2 ?_
          simp only [← hy, Mt.vals, lkp_cons, lkp_nil, Nat.reduceEqDiff, reduceIte, SI.den, q2, q3, q4, q10, q11, q12, q13, q14, q15]
          exact JS72k0.1 j2
      · simp only [sLk72k0c1, qLwLk720, tLwLk721, qLwLk721, List.mem_cons, List.not_mem_nil, or_false] at ht
        subst ht
        exact ⟨fun g hg => by cases hg; exact pcDen_nil _, by constructor <;> simp⟩
    | 1, hh, hs =>
      cases hs
      simp only [List.mem_cons, List.not_mem_nil, or_false] at hc
      rcases hc with rfl | rfl
      · simp only [sLk72k1c0, tLwLk720, qLwLk720, qLwLk721, qLwLk722, qLwLk723, qLwLk724, List.mem_cons, List.not_mem_nil, or_false] at ht
        rcases ht with rfl | rfl | rfl | rfl
        iterate 2 (exfalso; first | exact ab2 hpc 0 6 rfl rfl rfl | exact ab2 hpc 0 8 rfl rfl rfl | exact ab2 hpc 1 7 rfl rfl rfl | exact ab2 hpc 1 9 rfl rfl rfl | exact ab2 hpc 0 7 rfl rfl rfl | exact ab2 hpc 0 9 rfl rfl rfl)
        all_goals
          intro g hg
          dsimp only at hg ⊢
          simp only [pcDen_cons_iff, pcDen_nil_iff, SB.den, decide_eq_true_eq, decide_eq_false_iff_not, beq_iff_eq, beq_eq_false_iff_ne] at hpc
          simp only [SI.den, SG.den, gi10u hI2, gb11u hI2, q7, qn, qa, qg, q0, q2, q3, w64_64] at hpc
          have hle : x.i 0 ≤ ν.i 7 := by omega
          have em : (min (x.i 0) (ν.i 7)).toNat = (x.i 0).toNat := by omega
          rw [em] at j2
          generalize hy : Mt.vals _ (ghL []) ν2 = y
          have y0 : y.i 0 = x.i 0 + 1 := by rw [← hy]; simp only [Mt.vals, lkp_cons, lkp_nil, Nat.reduceEqDiff, reduceIte, SI.den, q0]
          refine nxLk72 hI hp' (by decide) hg j0 hle y0 ?_ (by constructor <;> simp)
        · rw [if_pos (by omega)]
          generalize it7 2 ν (ν.g 1).t (x.i 0).toNat = S at j2 ⊢
          obtain ⟨st, b, t, xx, wn, dn', cd, v⟩ := S
          obtain ⟨d1, ⟨e1, e2, e3⟩, ⟨r2, r3, r4⟩, d8⟩ := JS72k1.1 j2
          dsimp only at *
          subst d1
          skip
          all_goals
            subst e1
            subst e2 e3
            have mk2 := mask_modK (x.i 2) (ν.i 1) F.pw r2.1 r2.2
            skip
            have hw := d8
            refine JS72k2.2 ?_
            simp only [← hy, Mt.vals, lkp_cons, lkp_nil, Nat.reduceEqDiff, reduceIte, SI.den, SG.den, gi10u hI2, gb11u hI2, qa, qn, qc, qg, q0, q2, q3, q4, q10, q11, q12, q13, mk2, IntKind.wrap_u64]
            generalize tolds (ν.g 1).t (x.i 0).toNat = T at hpc T0 ⊢
            obtain ⟨tv, tw⟩ := T
            dsimp only at hpc T0 ⊢
            cases tw <;> first
              | (exfalso; omega)
              | (exfalso; simp at hpc; done)
              | (simp [st7, p7, tk7, kI, A7.step, A7.fin, A7.ahead, wnt7]; done)
              | (simp [st7, p7, tk7, kI, A7.step, A7.fin, A7.ahead, wnt7] <;> omega)
              | (simp [st7, p7, tk7, kI, A7.step, A7.fin, A7.ahead, wnt7]; simp [wnt7, A7.ahead] at hw; omega)
        · rw [if_neg (by omega)]
          refine JS72k1.2 ?_
          simp only [← hy, Mt.vals, lkp_cons, lkp_nil, Nat.reduceEqDiff, reduceIte, SI.den, q2, q3, q4, q10, q11, q12, q13, q14, q15]
          exact JS72k1.1 j2
      · simp only [sLk72k1c1, qLwLk720, tLwLk721, qLwLk721, List.mem_cons, List.not_mem_nil, or_false] at ht
        subst ht
        exact ⟨fun g hg => by cases hg; exact pcDen_nil _, by constructor <;> simp⟩
    | 2, hh, hs =>
      cases hs
      simp only [List.mem_cons, List.not_mem_nil, or_false] at hc
      rcases hc with rfl | rfl
      · simp only [sLk72k2c0, tLwLk720, qLwLk720, qLwLk721, qLwLk722, qLwLk723, qLwLk724, List.mem_cons, List.not_mem_nil, or_false] at ht
        rcases ht with rfl | rfl | rfl | rfl | rfl
        iterate 2 (exfalso; first | exact ab2 hpc 0 6 rfl rfl rfl | exact ab2 hpc 0 8 rfl rfl rfl | exact ab2 hpc 1 7 rfl rfl rfl | exact ab2 hpc 1 9 rfl rfl rfl | exact ab2 hpc 0 7 rfl rfl rfl | exact ab2 hpc 0 9 rfl rfl rfl)
        all_goals
          intro g hg
          dsimp only at hg ⊢
          simp only [pcDen_cons_iff, pcDen_nil_iff, SB.den, decide_eq_true_eq, decide_eq_false_iff_not, beq_iff_eq, beq_eq_false_iff_ne] at hpc
          simp only [SI.den, SG.den, gi10u hI2, gb11u hI2, q7, qn, qa, qg, q0, q2, q3, w64_64] at hpc
          have hle : x.i 0 ≤ ν.i 7 := by omega
          have em : (min (x.i 0) (ν.i 7)).toNat = (x.i 0).toNat := by omega
          rw [em] at j2
          generalize hy : Mt.vals _ (ghL []) ν2 = y
          have y0 : y.i 0 = x.i 0 + 1 := by rw [← hy]; simp only [Mt.vals, lkp_cons, lkp_nil, Nat.reduceEqDiff, reduceIte, SI.den, q0]
          refine nxLk72 hI hp' (by decide) hg j0 hle y0 ?_ (by constructor <;> simp)
        · rw [if_pos (by omega)]
          generalize it7 2 ν (ν.g 1).t (x.i 0).toNat = S at j2 ⊢
          obtain ⟨st, b, t, xx, wn, dn', cd, v⟩ := S
          obtain ⟨d1, ⟨e1, e2, e3⟩, ⟨r2, r3, r4⟩, d8⟩ := JS72k2.1 j2
          dsimp only at *
          subst d1
          skip
          all_goals
            subst e1
            subst e2 e3
            have mk2 := mask_modK (x.i 2) (ν.i 1) F.pw r2.1 r2.2
            skip
            have hw := d8
            refine JS72k4.2 ?_
            simp only [← hy, Mt.vals, lkp_cons, lkp_nil, Nat.reduceEqDiff, reduceIte, SI.den, SG.den, gi10u hI2, gb11u hI2, qa, qn, qc, qg, q0, q2, q3, q4, q10, q11, q12, q13, mk2, IntKind.wrap_u64]
            generalize tolds (ν.g 1).t (x.i 0).toNat = T at hpc T0 ⊢
            obtain ⟨tv, tw⟩ := T
            dsimp only at hpc T0 ⊢
            by_cases h0 : IntKind.i64.wrap (x.i 2 - tv) < 0 <;> cases tw <;> first
              | (exfalso; omega)
              | (exfalso; simp at hpc; done)
              | (simp [st7, p7, tk7, kI, A7.step, A7.fin, A7.ahead, wnt7, h0]; done)
              | (simp [st7, p7, tk7, kI, A7.step, A7.fin, A7.ahead, wnt7, h0] <;> omega)
              | (simp [st7, p7, tk7, kI, A7.step, A7.fin, A7.ahead, wnt7, h0]; simp [wnt7, A7.ahead] at hw; omega)
        · rw [if_pos (by omega)]
          generalize it7 2 ν (ν.g 1).t (x.i 0).toNat = S at j2 ⊢
          obtain ⟨st, b, t, xx, wn, dn', cd, v⟩ := S
          obtain ⟨d1, ⟨e1, e2, e3⟩, ⟨r2, r3, r4⟩, d8⟩ := JS72k2.1 j2
          dsimp only at *
          subst d1
          skip
          all_goals
            subst e1
            subst e2 e3
            have mk2 := mask_modK (x.i 2) (ν.i 1) F.pw r2.1 r2.2
            skip
            have hw := d8
            refine JS72k3.2 ?_
            simp only [← hy, Mt.vals, lkp_cons, lkp_nil, Nat.reduceEqDiff, reduceIte, SI.den, SG.den, gi10u hI2, gb11u hI2, qa, qn, qc, qg, q0, q2, q3, q4, q10, q11, q12, q13, mk2, IntKind.wrap_u64]
            generalize tolds (ν.g 1).t (x.i 0).toNat = T at hpc T0 ⊢
            obtain ⟨tv, tw⟩ := T
            dsimp only at hpc T0 ⊢
            by_cases h0 : IntKind.i64.wrap (x.i 2 - tv) < 0 <;> cases tw <;> first
              | (exfalso; omega)
              | (exfalso; simp at hpc; done)
              | (simp [st7, p7, tk7, kI, A7.step, A7.fin, A7.ahead, wnt7, h0]; done)
              | (simp [st7, p7, tk7, kI, A7.step, A7.fin, A7.ahead, wnt7, h0] <;> omega)
              | (simp [st7, p7, tk7, kI, A7.step, A7.fin, A7.ahead, wnt7, h0]; simp [wnt7, A7.ahead] at hw; omega)
        · rw [if_neg (by omega)]
          refine JS72k2.2 ?_
          simp only [← hy, Mt.vals, lkp_cons, lkp_nil, Nat.reduceEqDiff, reduceIte, SI.den, q2, q3, q4, q10, q11, q12, q13, q14, q15]
          exact JS72k2.1 j2
      · simp only [sLk72k2c1, qLwLk720, tLwLk721, qLwLk721, List.mem_cons, List.not_mem_nil, or_false] at ht
        subst ht
        exact ⟨fun g hg => by cases hg; exact pcDen_nil _, by constructor <;> simp⟩
    | 3, hh, hs =>
      cases hs
      simp only [List.mem_cons, List.not_mem_nil, or_false] at hc
      rcases hc with rfl | rfl
      · simp only [sLk72k3c0, tLwLk720, qLwLk720, qLwLk721, qLwLk722, qLwLk723, qLwLk724, List.mem_cons, List.not_mem_nil, or_false] at ht
        rcases ht with rfl | rfl | rfl | rfl | rfl
        iterate 2 (exfalso; first | exact ab2 hpc 0 6 rfl rfl rfl | exact ab2 hpc 0 8 rfl rfl rfl | exact ab2 hpc 1 7 rfl rfl rfl | exact ab2 hpc 1 9 rfl rfl rfl | exact ab2 hpc 0 7 rfl rfl rfl | exact ab2 hpc 0 9 rfl rfl rfl)
        all_goals
          intro g hg
          dsimp only at hg ⊢
          simp only [pcDen_cons_iff, pcDen_nil_iff, SB.den, decide_eq_true_eq, decide_eq_false_iff_not, beq_iff_eq, beq_eq_false_iff_ne] at hpc
          simp only [SI.den, SG.den, gi10u hI2, gb11u hI2, q7, qn, qa, qg, q0, q2, q3, w64_64] at hpc
          have hle : x.i 0 ≤ ν.i 7 := by omega
          have em : (min (x.i 0) (ν.i 7)).toNat = (x.i 0).toNat := by omega
          rw [em] at j2
          generalize hy : Mt.vals _ (ghL []) ν2 = y
          have y0 : y.i 0 = x.i 0 + 1 := by rw [← hy]; simp only [Mt.vals, lkp_cons, lkp_nil, Nat.reduceEqDiff, reduceIte, SI.den, q0]
          refine nxLk72 hI hp' (by decide) hg j0 hle y0 ?_ (by constructor <;> simp)
        · rw [if_pos (by omega)]
          generalize it7 2 ν (ν.g 1).t (x.i 0).toNat = S at j2 ⊢
          obtain ⟨st, b, t, xx, wn, dn', cd, v⟩ := S
          obtain ⟨d1, ⟨e1, e2, e3, e4, e5⟩, ⟨r2, r3, r4⟩, d8⟩ := JS72k3.1 j2
          dsimp only at *
          subst d1
          skip
          all_goals
            subst e1
            subst e2 e3 e4
            have mk2 := mask_modK (x.i 2) (ν.i 1) F.pw r2.1 r2.2
            have e6 : ¬ IntKind.i64.wrap (x.i 2 - x.i 3) < 0 := by omega
            have hw := d8
            refine JS72k7.2 ?_
            simp only [← hy, Mt.vals, lkp_cons, lkp_nil, Nat.reduceEqDiff, reduceIte, SI.den, SG.den, gi10u hI2, gb11u hI2, qa, qn, qc, qg, q0, q2, q3, q4, q10, q11, q12, q13, mk2, IntKind.wrap_u64]
            generalize tolds (ν.g 1).t (x.i 0).toNat = T at hpc T0 ⊢
            obtain ⟨tv, tw⟩ := T
            dsimp only at hpc T0 ⊢
            by_cases h0 : 0 < IntKind.i64.wrap (x.i 2 - x.i 3) <;> cases tw <;> first
              | (exfalso; omega)
              | (exfalso; simp at hpc; done)
              | (simp [st7, p7, tk7, kI, A7.step, A7.fin, A7.ahead, wnt7, h0, e6]; done)
              | (simp [st7, p7, tk7, kI, A7.step, A7.fin, A7.ahead, wnt7, h0, e6] <;> omega)
              | (simp [st7, p7, tk7, kI, A7.step, A7.fin, A7.ahead, wnt7, h0, e6]; simp [wnt7, A7.ahead] at hw; omega)
        · rw [if_pos (by omega)]
          generalize it7 2 ν (ν.g 1).t (x.i 0).toNat = S at j2 ⊢
          obtain ⟨st, b, t, xx, wn, dn', cd, v⟩ := S
          obtain ⟨d1, ⟨e1, e2, e3, e4, e5⟩, ⟨r2, r3, r4⟩, d8⟩ := JS72k3.1 j2
          dsimp only at *
          subst d1
          skip
          all_goals
            subst e1
            subst e2 e3 e4
            have mk2 := mask_modK (x.i 2) (ν.i 1) F.pw r2.1 r2.2
            have e6 : ¬ IntKind.i64.wrap (x.i 2 - x.i 3) < 0 := by omega
            have hw := d8
            refine JS72k5.2 ?_
            simp only [← hy, Mt.vals, lkp_cons, lkp_nil, Nat.reduceEqDiff, reduceIte, SI.den, SG.den, gi10u hI2, gb11u hI2, qa, qn, qc, qg, q0, q2, q3, q4, q10, q11, q12, q13, mk2, IntKind.wrap_u64]
            generalize tolds (ν.g 1).t (x.i 0).toNat = T at hpc T0 ⊢
            obtain ⟨tv, tw⟩ := T
            dsimp only at hpc T0 ⊢
            by_cases h0 : 0 < IntKind.i64.wrap (x.i 2 - x.i 3) <;> cases tw <;> first
              | (exfalso; omega)
              | (exfalso; simp at hpc; done)
              | (simp [st7, p7, tk7, kI, A7.step, A7.fin, A7.ahead, wnt7, h0, e6]; done)
              | (simp [st7, p7, tk7, kI, A7.step, A7.fin, A7.ahead, wnt7, h0, e6] <;> omega)
              | (simp [st7, p7, tk7, kI, A7.step, A7.fin, A7.ahead, wnt7, h0, e6]; simp [wnt7, A7.ahead] at hw; omega)
        · rw [if_neg (by omega)]
          refine JS72k3.2 ?_
          simp only [← hy, Mt.vals, lkp_cons, lkp_nil, Nat.reduceEqDiff, reduceIte, SI.den, q2, q3, q4, q10, q11, q12, q13, q14, q15]
          exact JS72k3.1 j2
      · simp only [sLk72k3c1, qLwLk720, tLwLk721, qLwLk721, List.mem_cons, List.not_mem_nil, or_false] at ht
        subst ht
        exact ⟨fun g hg => by cases hg; exact pcDen_nil _, by constructor <;> simp⟩
    | 4, hh, hs =>
      cases hs
      simp only [List.mem_cons, List.not_mem_nil, or_false] at hc
      rcases hc with rfl | rfl
      · simp only [sLk72k4c0, tLwLk720, qLwLk720, qLwLk721, qLwLk722, qLwLk723, qLwLk724, List.mem_cons, List.not_mem_nil, or_false] at ht
        rcases ht with rfl | rfl | rfl | rfl
        iterate 2 (exfalso; first | exact ab2 hpc 0 6 rfl rfl rfl | exact ab2 hpc 0 8 rfl rfl rfl | exact ab2 hpc 1 7 rfl rfl rfl | exact ab2 hpc 1 9 rfl rfl rfl | exact ab2 hpc 0 7 rfl rfl rfl | exact ab2 hpc 0 9 rfl rfl rfl)
        all_goals
          intro g hg
          dsimp only at hg ⊢
          simp only [pcDen_cons_iff, pcDen_nil_iff, SB.den, decide_eq_true_eq, decide_eq_false_iff_not, beq_iff_eq, beq_eq_false_iff_ne] at hpc
          simp only [SI.den, SG.den, gi10u hI2, gb11u hI2, q7, qn, qa, qg, q0, q2, q3, w64_64] at hpc
          have hle : x.i 0 ≤ ν.i 7 := by omega
          have em : (min (x.i 0) (ν.i 7)).toNat = (x.i 0).toNat := by omega
          rw [em] at j2
          generalize hy : Mt.vals _ (ghL []) ν2 = y
          have y0 : y.i 0 = x.i 0 + 1 := by rw [← hy]; simp only [Mt.vals, lkp_cons, lkp_nil, Nat.reduceEqDiff, reduceIte, SI.den, q0]
          refine nxLk72 hI hp' (by decide) hg j0 hle y0 ?_ (by constructor <;> simp)
        · rw [if_pos (by omega)]
          generalize it7 2 ν (ν.g 1).t (x.i 0).toNat = S at j2 ⊢
          obtain ⟨st, b, t, xx, wn, dn', cd, v⟩ := S
          obtain ⟨d1, ⟨e2, e1⟩, ⟨r2, r3, r4⟩, d8⟩ := JS72k4.1 j2
          dsimp only at *
          subst d1
          rcases (e1.imp id (fun h => (⟨h, Int.le_refl 0⟩ : _ ∧ (0 : Int) ≤ 0))) with ⟨e1, e0⟩ | ⟨e1, e0⟩
          all_goals
            subst e1
            subst e2
            have mk2 := mask_modK (x.i 2) (ν.i 1) F.pw r2.1 r2.2
            try dsimp only [A7.ahead] at e0
            have hw := d8
            refine JS72k7.2 ?_
            simp only [← hy, Mt.vals, lkp_cons, lkp_nil, Nat.reduceEqDiff, reduceIte, SI.den, SG.den, gi10u hI2, gb11u hI2, qa, qn, qc, qg, q0, q2, q3, q4, q10, q11, q12, q13, mk2, IntKind.wrap_u64]
            generalize tolds (ν.g 1).t (x.i 0).toNat = T at hpc T0 ⊢
            obtain ⟨tv, tw⟩ := T
            dsimp only at hpc T0 ⊢
            cases tw <;> first
              | (exfalso; omega)
              | (exfalso; simp at hpc; done)
              | (simp [st7, p7, tk7, kI, A7.step, A7.fin, A7.ahead, wnt7, e0]; done)
              | (simp [st7, p7, tk7, kI, A7.step, A7.fin, A7.ahead, wnt7, e0] <;> omega)
              | (simp [st7, p7, tk7, kI, A7.step, A7.fin, A7.ahead, wnt7, e0]; simp [wnt7, A7.ahead] at hw; omega)
        · rw [if_neg (by omega)]
          refine JS72k4.2 ?_
          simp only [← hy, Mt.vals, lkp_cons, lkp_nil, Nat.reduceEqDiff, reduceIte, SI.den, q2, q3, q4, q10, q11, q12, q13, q14, q15]
          exact JS72k4.1 j2
      · simp only [sLk72k4c1, qLwLk720, tLwLk721, qLwLk721, List.mem_cons, List.not_mem_nil, or_false] at ht
        subst ht
        exact ⟨fun g hg => by cases hg; exact pcDen_nil _, by constructor <;> simp⟩
    | 5, hh, hs =>
      cases hs
      simp only [List.mem_cons, List.not_mem_nil, or_false] at hc
      rcases hc with rfl | rfl | rfl
      · simp only [sLk72k5c0, tLwLk720, qLwLk720, qLwLk721, qLwLk722, qLwLk723, qLwLk724, List.mem_cons, List.not_mem_nil, or_false] at ht
        rcases ht with rfl | rfl | rfl | rfl
        iterate 2 (exfalso; first | exact ab2 hpc 0 6 rfl rfl rfl | exact ab2 hpc 0 8 rfl rfl rfl | exact ab2 hpc 1 7 rfl rfl rfl | exact ab2 hpc 1 9 rfl rfl rfl | exact ab2 hpc 0 7 rfl rfl rfl | exact ab2 hpc 0 9 rfl rfl rfl)
        all_goals
          intro g hg
          dsimp only at hg ⊢
          simp only [pcDen_cons_iff, pcDen_nil_iff, SB.den, decide_eq_true_eq, decide_eq_false_iff_not, beq_iff_eq, beq_eq_false_iff_ne] at hpc
          simp only [SI.den, SG.den, gi10u hI2, gb11u hI2, q7, qn, qa, qg, q0, q2, q3, w64_64] at hpc
          have hle : x.i 0 ≤ ν.i 7 := by omega
          have em : (min (x.i 0) (ν.i 7)).toNat = (x.i 0).toNat := by omega
          rw [em] at j2
          generalize hy : Mt.vals _ (ghL []) ν2 = y
          have y0 : y.i 0 = x.i 0 + 1 := by rw [← hy]; simp only [Mt.vals, lkp_cons, lkp_nil, Nat.reduceEqDiff, reduceIte, SI.den, q0]
          refine nxLk72 hI hp' (by decide) hg j0 hle y0 ?_ (by constructor <;> simp <;> (have rfy : RF nLk ν y (ν.at nLk y) := RF.self rfl; simp only [SL.den, SI.den, rfy.i 4 (by decide)]; rw [← hy]; simp only [Mt.vals, lkp_cons, lkp_nil, Nat.reduceEqDiff, reduceIte, SI.den, Nat.add_zero]))
        · rw [if_pos (by omega)]
          generalize it7 2 ν (ν.g 1).t (x.i 0).toNat = S at j2 ⊢
          obtain ⟨st, b, t, xx, wn, dn', cd, v⟩ := S
          obtain ⟨d1, ⟨e1, e2, e3, e4⟩, ⟨r2, r3, r4⟩, d8⟩ := JS72k5.1 j2
          dsimp only at *
          subst d1
          skip
          all_goals
            subst e1
            subst e2 e3 e4
            have mk2 := mask_modK (x.i 2) (ν.i 1) F.pw r2.1 r2.2
            skip
            have hw := d8
            refine JS72k6.2 ?_
            simp only [← hy, Mt.vals, lkp_cons, lkp_nil, Nat.reduceEqDiff, reduceIte, SI.den, SG.den, gi10u hI2, gb11u hI2, qa, qn, qc, qg, q0, q2, q3, q4, q10, q11, q12, q13, mk2, IntKind.wrap_u64]
            generalize tolds (ν.g 1).t (x.i 0).toNat = T at hpc T0 ⊢
            obtain ⟨tv, tw⟩ := T
            dsimp only at hpc T0 ⊢
            cases tw <;> first
              | (exfalso; omega)
              | (exfalso; simp at hpc; done)
              | (simp [st7, p7, tk7, kI, A7.step, A7.fin, A7.ahead, wnt7]; done)
              | (simp [st7, p7, tk7, kI, A7.step, A7.fin, A7.ahead, wnt7] <;> omega)
              | (simp [st7, p7, tk7, kI, A7.step, A7.fin, A7.ahead, wnt7]; simp [wnt7, A7.ahead] at hw; omega)
        · rw [if_neg (by omega)]
          refine JS72k5.2 ?_
          simp only [← hy, Mt.vals, lkp_cons, lkp_nil, Nat.reduceEqDiff, reduceIte, SI.den, q2, q3, q4, q10, q11, q12, q13, q14, q15]
          exact JS72k5.1 j2
      · simp only [sLk72k5c1, tLwLk720, qLwLk720, qLwLk721, qLwLk722, qLwLk723, qLwLk724, List.mem_cons, List.not_mem_nil, or_false] at ht
        rcases ht with rfl | rfl | rfl | rfl
        iterate 2 (exfalso; first | exact ab2 hpc 0 6 rfl rfl rfl | exact ab2 hpc 0 8 rfl rfl rfl | exact ab2 hpc 1 7 rfl rfl rfl | exact ab2 hpc 1 9 rfl rfl rfl | exact ab2 hpc 0 7 rfl rfl rfl | exact ab2 hpc 0 9 rfl rfl rfl)
        all_goals
          intro g hg
          dsimp only at hg ⊢
          simp only [pcDen_cons_iff, pcDen_nil_iff, SB.den, decide_eq_true_eq, decide_eq_false_iff_not, beq_iff_eq, beq_eq_false_iff_ne] at hpc
          simp only [SI.den, SG.den, gi10u hI2, gb11u hI2, q7, qn, qa, qg, q0, q2, q3, w64_64] at hpc
          have hle : x.i 0 ≤ ν.i 7 := by omega
          have em : (min (x.i 0) (ν.i 7)).toNat = (x.i 0).toNat := by omega
          rw [em] at j2
          generalize hy : Mt.vals _ (ghL []) ν2 = y
          have y0 : y.i 0 = x.i 0 + 1 := by rw [← hy]; simp only [Mt.vals, lkp_cons, lkp_nil, Nat.reduceEqDiff, reduceIte, SI.den, q0]
          refine nxLk72 hI hp' (by decide) hg j0 hle y0 ?_ (by constructor <;> simp)
        · rw [if_pos (by omega)]
          generalize it7 2 ν (ν.g 1).t (x.i 0).toNat = S at j2 ⊢
          obtain ⟨st, b, t, xx, wn, dn', cd, v⟩ := S
          obtain ⟨d1, ⟨e1, e2, e3, e4⟩, ⟨r2, r3, r4⟩, d8⟩ := JS72k5.1 j2
          dsimp only at *
          subst d1
          skip
          all_goals
            subst e1
            subst e2 e3 e4
            have mk2 := mask_modK (x.i 2) (ν.i 1) F.pw r2.1 r2.2
            skip
            have hw := d8
            refine JS72k4.2 ?_
            simp only [← hy, Mt.vals, lkp_cons, lkp_nil, Nat.reduceEqDiff, reduceIte, SI.den, SG.den, gi10u hI2, gb11u hI2, qa, qn, qc, qg, q0, q2, q3, q4, q10, q11, q12, q13, mk2, IntKind.wrap_u64]
            generalize tolds (ν.g 1).t (x.i 0).toNat = T at hpc T0 ⊢
            obtain ⟨tv, tw⟩ := T
            dsimp only at hpc T0 ⊢
            cases tw <;> first
              | (exfalso; omega)
              | (exfalso; simp at hpc; done)
              | (simp [st7, p7, tk7, kI, A7.step, A7.fin, A7.ahead, wnt7]; done)
              | (simp [st7, p7, tk7, kI, A7.step, A7.fin, A7.ahead, wnt7] <;> omega)
              | (simp [st7, p7, tk7, kI, A7.step, A7.fin, A7.ahead, wnt7]; simp [wnt7, A7.ahead] at hw; omega)
        · rw [if_neg (by omega)]
          refine JS72k5.2 ?_
          simp only [← hy, Mt.vals, lkp_cons, lkp_nil, Nat.reduceEqDiff, reduceIte, SI.den, q2, q3, q4, q10, q11, q12, q13, q14, q15]
          exact JS72k5.1 j2
      · simp only [sLk72k5c2, qLwLk720, tLwLk721, qLwLk721, List.mem_cons, List.not_mem_nil, or_false] at ht
        subst ht
        exact ⟨fun g hg => by cases hg; exact pcDen_nil _, by constructor <;> simp⟩
    | 6, hh, hs =>
      cases hs
      simp only [List.mem_cons, List.not_mem_nil, or_false] at hc
      rcases hc with rfl | rfl
      · simp only [sLk72k6c0, qLwLk720, tLwLk721, qLwLk721, qLwLk723, qLwLk724, qLwLk725, List.mem_cons, List.not_mem_nil, or_false] at ht
        rcases ht with rfl | rfl | rfl | rfl
        iterate 2 (exfalso; first | exact ab2 hpc 0 6 rfl rfl rfl | exact ab2 hpc 0 8 rfl rfl rfl | exact ab2 hpc 1 7 rfl rfl rfl | exact ab2 hpc 1 9 rfl rfl rfl | exact ab2 hpc 0 7 rfl rfl rfl | exact ab2 hpc 0 9 rfl rfl rfl)
        all_goals
          intro g hg
          dsimp only at hg ⊢
          simp only [pcDen_cons_iff, pcDen_nil_iff, SB.den, decide_eq_true_eq, decide_eq_false_iff_not, beq_iff_eq, beq_eq_false_iff_ne] at hpc
          simp only [SI.den, SG.den, gi10u hI2, gb11u hI2, q7, qn, qa, qg, q0, q2, q3, w64_64] at hpc
          have hle : x.i 0 ≤ ν.i 7 := by omega
          have em : (min (x.i 0) (ν.i 7)).toNat = (x.i 0).toNat := by omega
          rw [em] at j2
          generalize hy : Mt.vals _ (ghL []) ν2 = y
          have y0 : y.i 0 = x.i 0 + 1 := by rw [← hy]; simp only [Mt.vals, lkp_cons, lkp_nil, Nat.reduceEqDiff, reduceIte, SI.den, q0]
          refine nxLk72 hI hp' (by decide) hg j0 hle y0 ?_ (by constructor <;> simp <;> (have rfy : RF nLk ν y (ν.at nLk y) := RF.self rfl; simp only [SL.den, SI.den, rfy.i 4 (by decide)]; rw [← hy]; simp only [Mt.vals, lkp_cons, lkp_nil, Nat.reduceEqDiff, reduceIte, SI.den, Nat.add_zero]))
        · rw [if_pos (by omega)]
          generalize it7 2 ν (ν.g 1).t (x.i 0).toNat = S at j2 ⊢
          obtain ⟨st, b, t, xx, wn, dn', cd, v⟩ := S
          obtain ⟨d1, ⟨e1, e2, e3⟩, ⟨r2, r3, r4⟩, d8⟩ := JS72k6.1 j2
          dsimp only at *
          subst d1
          skip
          all_goals
            subst e1
            subst e2 e3
            have mk2 := mask_modK (x.i 2) (ν.i 1) F.pw r2.1 r2.2
            skip
            have hw := d8
            refine JS72k7.2 ?_
            simp only [← hy, Mt.vals, lkp_cons, lkp_nil, Nat.reduceEqDiff, reduceIte, SI.den, SG.den, gi10u hI2, gb11u hI2, qa, qn, qc, qg, q0, q2, q3, q4, q10, q11, q12, q13, mk2, IntKind.wrap_u64]
            generalize tolds (ν.g 1).t (x.i 0).toNat = T at hpc T0 ⊢
            obtain ⟨tv, tw⟩ := T
            dsimp only at hpc T0 ⊢
            cases tw <;> first
              | (exfalso; omega)
              | (exfalso; simp at hpc; done)
              | (simp [st7, p7, tk7, kI, A7.step, A7.fin, A7.ahead, wnt7]; done)
              | (simp [st7, p7, tk7, kI, A7.step, A7.fin, A7.ahead, wnt7] <;> omega)
              | (simp [st7, p7, tk7, kI, A7.step, A7.fin, A7.ahead, wnt7]; simp [wnt7, A7.ahead] at hw; omega)
        · rw [if_neg (by omega)]
          refine JS72k6.2 ?_
          simp only [← hy, Mt.vals, lkp_cons, lkp_nil, Nat.reduceEqDiff, reduceIte, SI.den, q2, q3, q4, q10, q11, q12, q13, q14, q15]
          exact JS72k6.1 j2
      · simp only [sLk72k6c1, qLwLk720, tLwLk721, qLwLk721, List.mem_cons, List.not_mem_nil, or_false] at ht
        subst ht
        exact ⟨fun g hg => by cases hg; exact pcDen_nil _, by constructor <;> simp⟩
    | 7, hh, hs =>
      cases hs
      simp only [List.mem_cons, List.not_mem_nil, or_false] at hc
      rcases hc with rfl | rfl
      · simp only [sLk72k7c0, qLwLk720, tLwLk721, qLwLk721, qLwLk722, qLwLk723, qLwLk724, qLwLk726, List.mem_cons, List.not_mem_nil, or_false] at ht
        rcases ht with rfl | rfl | rfl | rfl
        iterate 2 (exfalso; first | exact ab2 hpc 0 6 rfl rfl rfl | exact ab2 hpc 0 8 rfl rfl rfl | exact ab2 hpc 1 7 rfl rfl rfl | exact ab2 hpc 1 9 rfl rfl rfl | exact ab2 hpc 0 7 rfl rfl rfl | exact ab2 hpc 0 9 rfl rfl rfl)
        all_goals
          intro g hg
          dsimp only at hg ⊢
          simp only [pcDen_cons_iff, pcDen_nil_iff, SB.den, decide_eq_true_eq, decide_eq_false_iff_not, beq_iff_eq, beq_eq_false_iff_ne] at hpc
          simp only [SI.den, SG.den, gi10u hI2, gb11u hI2, q7, qn, qa, qg, q0, q2, q3, w64_64] at hpc
          have hle : x.i 0 ≤ ν.i 7 := by omega
          have em : (min (x.i 0) (ν.i 7)).toNat = (x.i 0).toNat := by omega
          rw [em] at j2
          generalize hy : Mt.vals _ (ghL []) ν2 = y
          have y0 : y.i 0 = x.i 0 + 1 := by rw [← hy]; simp only [Mt.vals, lkp_cons, lkp_nil, Nat.reduceEqDiff, reduceIte, SI.den, q0]
          refine nxLk72 hI hp' (by decide) hg j0 hle y0 ?_ (by constructor <;> simp)
        · rw [if_pos (by omega)]
          obtain ⟨d1, d2, d3⟩ := JS72k7.1 j2
          refine JS72k7.2 ?_
          simp only [← hy, Mt.vals, lkp_cons, lkp_nil, Nat.reduceEqDiff, reduceIte, SI.den, q14, q15]
          simp [st7, A7.step, d1, d2, d3]
        · rw [if_neg (by omega)]
          refine JS72k7.2 ?_
          simp only [← hy, Mt.vals, lkp_cons, lkp_nil, Nat.reduceEqDiff, reduceIte, SI.den, q2, q3, q4, q10, q11, q12, q13, q14, q15]
          exact JS72k7.1 j2
      · simp only [sLk72k7c1, qLwLk720, tLwLk721, qLwLk721, List.mem_cons, List.not_mem_nil, or_false] at ht
        subst ht
        exact ⟨fun g hg => by cases hg; exact pcDen_nil _, by constructor <;> simp⟩
    | m + 8, hh, hs => cases hs
end Go.Proofs.Ytlmenjenkpnacaa
end
