/- Is a deque's walk like the document's, round by round (kind 3; 0: refused). (Printed by lk7.py.) -/
import Derived.Test.YtlmenjenkpnacaaLwXA
import Derived.Test.YtlmenjenkpnacaaLwXV
import Derived.Test.YtlmenjenkpnacaaLwXL
set_option linter.unusedVariables false
set_option linter.unusedSimpArgs false

section
namespace Go.Proofs.Ytlmenjenkpnacaa
open Go Go.Sy Go.RowKit

def qLwLk730 : SG := (.app 76 (.var 2) (.app 82 (.var 1) (.var 0) (.add (.var 7) (.lit 1)) (.lit 0) (.lit 0) (.lit 0) (.cons (.var 0) (.cons (.var 1) (.cons (.lit 3) (.cons (.lit 0) (.cons (.lit 1) (.cons (.lit 0) (.cons (.lit 0) (.cons (.lit 0) (.cons (.lit 0) (.cons (.lit 0) (.cons (.lit 0) (.cons (.lit 0) .nil))))))))))))) (.lit 0) (.lit 0) (.lit 0) (.lit 0) .nil)
def qLwLk731 : SI := (.gi 17 (.app 78 (.var 2) (.var 0) (.lit 121) (.lit 10) (.var 2) (.lit 0) (.cons (.lit 3) (.cons (.lit 3) (.cons (.lit 7) (.cons (.lit 7) (.cons (.lit 8) (.cons (.lit 3) (.cons (.lit 7) (.cons (.lit 10) (.cons (.lit 8) (.cons (.lit 10) .nil))))))))))) (.lit 0) (.lit 0))
def qLwLk732 : SG := (.app 2 (.app 1 (.var 0) (.var 0) (.lit 0) (.lit 0) (.lit 0) (.lit 0) .nil) (.app 1 (.var 0) (.var 0) (.lit 0) (.lit 0) (.lit 0) (.lit 0) (.gl 0 (.app 70 (.var 2) (.var 2) (.mul (.var (nLk + 0)) (.lit 10)) (.lit 9) (.lit 0) (.lit 0) .nil) (.lit 0) (.lit 0))) (.lit 0) (.lit 0) (.lit 0) (.lit 0) .nil)
def qLwLk733 : SG := (.app 70 (.var 2) (.var 2) (.mul (.var (nLk + 0)) (.lit 10)) (.lit 4) (.lit 0) (.lit 0) .nil)
def qLwLk734 : SG := (.app 70 (.var 2) (.var 2) (.mul (.var (nLk + 0)) (.lit 10)) (.lit 8) (.lit 0) (.lit 0) .nil)
def qLwLk735 : SG := (.app 2 (.app 1 (.var 0) (.var 0) (.lit 0) (.lit 0) (.lit 0) (.lit 0) .nil) (.app 1 (.var 0) (.var 0) (.lit 0) (.lit 0) (.lit 0) (.lit 0) (.gl 0 (.app 70 (.var 2) (.var 2) (.mul (.var (nLk + 0)) (.lit 10)) (.lit 7) (.lit 0) (.lit 0) .nil) (.lit 0) (.lit 0))) (.lit 0) (.lit 0) (.lit 0) (.lit 0) .nil)
def tLwLk730 : PC := [((.lt (.var 7) (.var (nLk + 0))), false), ((.eq (.var (nLk + 10)) (.gi 15 (.var 2) (.mul (.var (nLk + 0)) (.lit 10)) (.lit 0))), true), ((.eq (.var (nLk + 11)) (.gi 15 (.var 2) (.mul (.var (nLk + 0)) (.lit 10)) (.lit 1))), true), ((.eq (.var (nLk + 12)) (.gi 15 (.var 2) (.mul (.var (nLk + 0)) (.lit 10)) (.lit 2))), true), ((.eq (.var (nLk + 13)) (.gi 15 (.var 2) (.mul (.var (nLk + 0)) (.lit 10)) (.lit 3))), true), ((.same (.lit true) (.gb 0 qLwLk733 (.lit 0) (.lit 0))), true), ((.same (.lit false) (.gb 0 qLwLk734 (.lit 0) (.lit 0))), true), ((.gb 0 qLwLk732 (.lit 0) (.lit 0)), true), ((.lt (.var (nLk + 0)) (.lit 0)), false), ((.lt (.add (.var 7) (.lit 1)) (.var (nLk + 0))), false), ((.lt (.var (nLk + 3)) (.lit 0)), false), ((.lt (.var (nLk + 3)) (.lit 18446744073709551616)), true), ((.lt (.var (nLk + 4)) (.lit 0)), false), ((.lt (.var (nLk + 4)) (.lit 18446744073709551616)), true), ((.gb 0 qLwLk730 (.lit 0) (.lit 0)), true), ((.eq qLwLk731 (.add (.var 7) (.lit 1))), true), ((.lt (.var 0) (.lit 0)), false), ((.lt (.var 0) (.sub (.lit 65535) (.mul (.lit 1) (.var 1)))), true), ((.lt (.var 1) (.lit 2)), false), ((.lt (.lit 256) (.var 1)), false), ((.or (.eq (.var 1) (.lit 2)) (.or (.eq (.var 1) (.lit 4)) (.or (.eq (.var 1) (.lit 8)) (.or (.eq (.var 1) (.lit 16)) (.or (.eq (.var 1) (.lit 32)) (.or (.eq (.var 1) (.lit 64)) (.or (.eq (.var 1) (.lit 128)) (.eq (.var 1) (.lit 256))))))))), true), ((.lt (.var 7) (.lit 0)), false), ((.lt (.lit 200) (.var 7)), false), ((.lt (.var 8) (.lit 0)), false), ((.gb 0 (.app 83 (.var 1) (.var 0) (.lit 0) (.lit 0) (.lit 0) (.lit 0) .nil) (.lit 0) (.lit 0)), true)]
def tLwLk731 : PC := [((.gb 0 qLwLk730 (.lit 0) (.lit 0)), true), ((.eq qLwLk731 (.add (.var 7) (.lit 1))), true), ((.lt (.var 0) (.lit 0)), false), ((.lt (.var 0) (.sub (.lit 65535) (.mul (.lit 1) (.var 1)))), true), ((.lt (.var 1) (.lit 2)), false), ((.lt (.lit 256) (.var 1)), false), ((.or (.eq (.var 1) (.lit 2)) (.or (.eq (.var 1) (.lit 4)) (.or (.eq (.var 1) (.lit 8)) (.or (.eq (.var 1) (.lit 16)) (.or (.eq (.var 1) (.lit 32)) (.or (.eq (.var 1) (.lit 64)) (.or (.eq (.var 1) (.lit 128)) (.eq (.var 1) (.lit 256))))))))), true), ((.lt (.var 7) (.lit 0)), false), ((.lt (.lit 200) (.var 7)), false), ((.lt (.var 8) (.lit 0)), false), ((.gb 0 (.app 83 (.var 1) (.var 0) (.lit 0) (.lit 0) (.lit 0) (.lit 0) .nil) (.lit 0) (.lit 0)), true)]
def pcLk73 : PC := tLwLk731
def stLk73 : Mt := ⟨[], [(4, (.lit 0)), (3, (.lit 0)), (13, (.lit 0)), (12, (.lit 0)), (11, (.var 0)), (10, (.lit 1)), (0, (.lit 0))], [], [], [], [], [], []⟩
def sLk73k0c0 : List SumT := [
  ⟨.ret, 1, ⟨[], [], [], [], [], [], [], []⟩, (((.gb 0 qLwLk733 (.lit 0) (.lit 0)), false) :: tLwLk730)⟩,
  ⟨.ret, 1, ⟨[], [], [], [], [], [], [], []⟩, (((.gb 0 qLwLk734 (.lit 0) (.lit 0)), true) :: ((.gb 0 qLwLk733 (.lit 0) (.lit 0)), true) :: tLwLk730)⟩,
  ⟨.normal, 1, ⟨[], [(4, (.var (nLk + 4))), (3, (.gi 10 (.var 1) (.var (nLk + 0)) (.lit 0))), (13, (.lit 0)), (12, (.lit 0)), (11, (.add (.var 0) (.lit 1))), (10, (.lit 1)), (0, (.add (.var (nLk + 0)) (.lit 1)))], [], [], [], [], [], []⟩, (((.lt (.var (nLk + 0)) (.var 7)), true) :: ((.gb 0 qLwLk734 (.lit 0) (.lit 0)), false) :: ((.gb 0 qLwLk733 (.lit 0) (.lit 0)), true) :: tLwLk730)⟩,
  ⟨.normal, 0, ⟨[], [(4, (.var (nLk + 4))), (3, (.var (nLk + 3))), (13, (.var (nLk + 13))), (12, (.var (nLk + 12))), (11, (.var (nLk + 11))), (10, (.var (nLk + 10))), (0, (.add (.var (nLk + 0)) (.lit 1)))], [], [], [], [], [], []⟩, (((.lt (.var (nLk + 0)) (.var 7)), false) :: ((.gb 0 qLwLk734 (.lit 0) (.lit 0)), false) :: ((.gb 0 qLwLk733 (.lit 0) (.lit 0)), true) :: tLwLk730)⟩]
def sLk73k0c1 : List SumT := [
  ⟨.exit 0, 0, ⟨[], [], [], [], [], [], [], []⟩, (((.lt (.var 7) (.var (nLk + 0))), true) :: ((.lt (.var (nLk + 0)) (.lit 0)), false) :: ((.lt (.add (.var 7) (.lit 1)) (.var (nLk + 0))), false) :: ((.lt (.var (nLk + 3)) (.lit 0)), false) :: ((.lt (.var (nLk + 3)) (.lit 18446744073709551616)), true) :: ((.lt (.var (nLk + 4)) (.lit 0)), false) :: ((.lt (.var (nLk + 4)) (.lit 18446744073709551616)), true) :: tLwLk731)⟩]
def sLk73k1c0 : List SumT := [
  ⟨.ret, 1, ⟨[], [], [], [], [], [], [], []⟩, (((.gb 0 qLwLk733 (.lit 0) (.lit 0)), false) :: tLwLk730)⟩,
  ⟨.ret, 1, ⟨[], [], [], [], [], [], [], []⟩, (((.gb 0 qLwLk734 (.lit 0) (.lit 0)), true) :: ((.gb 0 qLwLk733 (.lit 0) (.lit 0)), true) :: tLwLk730)⟩,
  ⟨.normal, 4, ⟨[], [(15, (.lit 0)), (14, (.lit 5)), (13, (.var (nLk + 13))), (12, (.var (nLk + 12))), (11, (.var (nLk + 11))), (10, (.var (nLk + 10))), (0, (.add (.var (nLk + 0)) (.lit 1)))], [], [], [], [], [], []⟩, (((.lt (.wrap .i64 (.wrap .u64 (.sub (.gi 10 (.var 1) (.var (nLk + 0)) (.lit 0)) (.var (nLk + 3))))) (.lit 1)), true) :: ((.lt (.var (nLk + 0)) (.var 7)), true) :: ((.gb 0 qLwLk734 (.lit 0) (.lit 0)), false) :: ((.gb 0 qLwLk733 (.lit 0) (.lit 0)), true) :: tLwLk730)⟩,
  ⟨.normal, 2, ⟨[], [(4, (.var (nLk + 4))), (3, (.var (nLk + 3))), (13, (.lit 0)), (12, (.lit 0)), (11, (.add (.add (.var 0) (.lit 2)) (.bits 0 .u64 (.var (nLk + 3)) (.sub (.var 1) (.lit 1))))), (10, (.lit 1)), (0, (.add (.var (nLk + 0)) (.lit 1)))], [], [], [], [], [], []⟩, (((.lt (.wrap .i64 (.wrap .u64 (.sub (.gi 10 (.var 1) (.var (nLk + 0)) (.lit 0)) (.var (nLk + 3))))) (.lit 1)), false) :: ((.lt (.var (nLk + 0)) (.var 7)), true) :: ((.gb 0 qLwLk734 (.lit 0) (.lit 0)), false) :: ((.gb 0 qLwLk733 (.lit 0) (.lit 0)), true) :: tLwLk730)⟩,
  ⟨.normal, 1, ⟨[], [(4, (.var (nLk + 4))), (3, (.var (nLk + 3))), (13, (.var (nLk + 13))), (12, (.var (nLk + 12))), (11, (.var (nLk + 11))), (10, (.var (nLk + 10))), (0, (.add (.var (nLk + 0)) (.lit 1)))], [], [], [], [], [], []⟩, (((.lt (.var (nLk + 0)) (.var 7)), false) :: ((.gb 0 qLwLk734 (.lit 0) (.lit 0)), false) :: ((.gb 0 qLwLk733 (.lit 0) (.lit 0)), true) :: tLwLk730)⟩]
def sLk73k1c1 : List SumT := [
  ⟨.exit 0, 0, ⟨[], [], [], [], [], [], [], []⟩, (((.lt (.var 7) (.var (nLk + 0))), true) :: ((.lt (.var (nLk + 0)) (.lit 0)), false) :: ((.lt (.add (.var 7) (.lit 1)) (.var (nLk + 0))), false) :: ((.lt (.var (nLk + 3)) (.lit 0)), false) :: ((.lt (.var (nLk + 3)) (.lit 18446744073709551616)), true) :: ((.lt (.var (nLk + 4)) (.lit 0)), false) :: ((.lt (.var (nLk + 4)) (.lit 18446744073709551616)), true) :: tLwLk731)⟩]
def sLk73k2c0 : List SumT := [
  ⟨.ret, 1, ⟨[], [], [], [], [], [], [], []⟩, (((.gb 0 qLwLk733 (.lit 0) (.lit 0)), false) :: tLwLk730)⟩,
  ⟨.ret, 1, ⟨[], [], [], [], [], [], [], []⟩, (((.gb 0 qLwLk734 (.lit 0) (.lit 0)), true) :: ((.gb 0 qLwLk733 (.lit 0) (.lit 0)), true) :: tLwLk730)⟩,
  ⟨.normal, 3, ⟨[], [(4, (.gi 10 (.var 1) (.var (nLk + 0)) (.lit 0))), (3, (.var (nLk + 3))), (13, (.wrap .u64 (.add (.var (nLk + 3)) (.lit 1)))), (12, (.var (nLk + 3))), (11, (.var 0)), (10, (.lit 3)), (0, (.add (.var (nLk + 0)) (.lit 1)))], [], [], [], [], [], []⟩, (((.lt (.var (nLk + 0)) (.var 7)), true) :: ((.gb 0 qLwLk734 (.lit 0) (.lit 0)), false) :: ((.gb 0 qLwLk733 (.lit 0) (.lit 0)), true) :: tLwLk730)⟩,
  ⟨.normal, 2, ⟨[], [(4, (.var (nLk + 4))), (3, (.var (nLk + 3))), (13, (.var (nLk + 13))), (12, (.var (nLk + 12))), (11, (.var (nLk + 11))), (10, (.var (nLk + 10))), (0, (.add (.var (nLk + 0)) (.lit 1)))], [], [], [], [], [], []⟩, (((.lt (.var (nLk + 0)) (.var 7)), false) :: ((.gb 0 qLwLk734 (.lit 0) (.lit 0)), false) :: ((.gb 0 qLwLk733 (.lit 0) (.lit 0)), true) :: tLwLk730)⟩]
def sLk73k2c1 : List SumT := [
  ⟨.exit 0, 0, ⟨[], [], [], [], [], [], [], []⟩, (((.lt (.var 7) (.var (nLk + 0))), true) :: ((.lt (.var (nLk + 0)) (.lit 0)), false) :: ((.lt (.add (.var 7) (.lit 1)) (.var (nLk + 0))), false) :: ((.lt (.var (nLk + 3)) (.lit 0)), false) :: ((.lt (.var (nLk + 3)) (.lit 18446744073709551616)), true) :: ((.lt (.var (nLk + 4)) (.lit 0)), false) :: ((.lt (.var (nLk + 4)) (.lit 18446744073709551616)), true) :: tLwLk731)⟩]
def sLk73k3c0 : List SumT := [
  ⟨.ret, 1, ⟨[], [], [], [], [], [], [], []⟩, (((.gb 0 qLwLk733 (.lit 0) (.lit 0)), false) :: tLwLk730)⟩,
  ⟨.ret, 1, ⟨[], [], [], [], [], [], [], []⟩, (((.gb 0 qLwLk734 (.lit 0) (.lit 0)), true) :: ((.gb 0 qLwLk733 (.lit 0) (.lit 0)), true) :: tLwLk730)⟩,
  ⟨.normal, 4, ⟨[], [(15, (.lit 0)), (14, (.lit 6)), (13, (.var (nLk + 13))), (12, (.var (nLk + 12))), (11, (.var (nLk + 11))), (10, (.var (nLk + 10))), (0, (.add (.var (nLk + 0)) (.lit 1)))], [], [], [], [], [], []⟩, (((.gb 11 (.var 1) (.var (nLk + 0)) (.lit 0)), false) :: ((.lt (.var (nLk + 0)) (.var 7)), true) :: ((.gb 0 qLwLk734 (.lit 0) (.lit 0)), false) :: ((.gb 0 qLwLk733 (.lit 0) (.lit 0)), true) :: tLwLk730)⟩,
  ⟨.normal, 4, ⟨[], [(15, (.var (nLk + 4))), (14, (.lit 0)), (13, (.var (nLk + 13))), (12, (.var (nLk + 12))), (11, (.var (nLk + 11))), (10, (.var (nLk + 10))), (0, (.add (.var (nLk + 0)) (.lit 1)))], [], [], [], [], [], []⟩, (((.gb 11 (.var 1) (.var (nLk + 0)) (.lit 0)), true) :: ((.lt (.var (nLk + 0)) (.var 7)), true) :: ((.gb 0 qLwLk734 (.lit 0) (.lit 0)), false) :: ((.gb 0 qLwLk733 (.lit 0) (.lit 0)), true) :: tLwLk730)⟩,
  ⟨.normal, 3, ⟨[], [(4, (.var (nLk + 4))), (3, (.var (nLk + 3))), (13, (.var (nLk + 13))), (12, (.var (nLk + 12))), (11, (.var (nLk + 11))), (10, (.var (nLk + 10))), (0, (.add (.var (nLk + 0)) (.lit 1)))], [], [], [], [], [], []⟩, (((.lt (.var (nLk + 0)) (.var 7)), false) :: ((.gb 0 qLwLk734 (.lit 0) (.lit 0)), false) :: ((.gb 0 qLwLk733 (.lit 0) (.lit 0)), true) :: tLwLk730)⟩]
def sLk73k3c1 : List SumT := [
  ⟨.exit 0, 0, ⟨[], [], [], [], [], [], [], []⟩, (((.lt (.var 7) (.var (nLk + 0))), true) :: ((.lt (.var (nLk + 0)) (.lit 0)), false) :: ((.lt (.add (.var 7) (.lit 1)) (.var (nLk + 0))), false) :: ((.lt (.var (nLk + 3)) (.lit 0)), false) :: ((.lt (.var (nLk + 3)) (.lit 18446744073709551616)), true) :: ((.lt (.var (nLk + 4)) (.lit 0)), false) :: ((.lt (.var (nLk + 4)) (.lit 18446744073709551616)), true) :: tLwLk731)⟩]
def sLk73k4c0 : List SumT := [
  ⟨.ret, 1, ⟨[], [], [], [], [], [], [], []⟩, (((.gb 0 qLwLk733 (.lit 0) (.lit 0)), true) :: ((.lt (.var 7) (.var (nLk + 0))), false) :: ((.eq (.lit 0) (.gi 15 (.var 2) (.mul (.var (nLk + 0)) (.lit 10)) (.lit 0))), true) :: ((.eq (.lit 0) (.gi 15 (.var 2) (.mul (.var (nLk + 0)) (.lit 10)) (.lit 1))), true) :: ((.eq (.lit 0) (.gi 15 (.var 2) (.mul (.var (nLk + 0)) (.lit 10)) (.lit 2))), true) :: ((.eq (.lit 0) (.gi 15 (.var 2) (.mul (.var (nLk + 0)) (.lit 10)) (.lit 3))), true) :: ((.same (.lit false) (.gb 0 qLwLk733 (.lit 0) (.lit 0))), true) :: ((.same (.lit true) (.gb 0 qLwLk734 (.lit 0) (.lit 0))), true) :: ((.eq (.var (nLk + 14)) (.gi 15 (.var 2) (.mul (.var (nLk + 0)) (.lit 10)) (.lit 5))), true) :: ((.eq (.var (nLk + 15)) (.gi 15 (.var 2) (.mul (.var (nLk + 0)) (.lit 10)) (.lit 6))), true) :: ((.gb 0 qLwLk735 (.lit 0) (.lit 0)), true) :: ((.gb 0 qLwLk732 (.lit 0) (.lit 0)), true) :: ((.lt (.var (nLk + 0)) (.lit 0)), false) :: ((.lt (.add (.var 7) (.lit 1)) (.var (nLk + 0))), false) :: tLwLk731)⟩,
  ⟨.ret, 1, ⟨[], [], [], [], [], [], [], []⟩, (((.gb 0 qLwLk734 (.lit 0) (.lit 0)), false) :: ((.gb 0 qLwLk733 (.lit 0) (.lit 0)), false) :: ((.lt (.var 7) (.var (nLk + 0))), false) :: ((.eq (.lit 0) (.gi 15 (.var 2) (.mul (.var (nLk + 0)) (.lit 10)) (.lit 0))), true) :: ((.eq (.lit 0) (.gi 15 (.var 2) (.mul (.var (nLk + 0)) (.lit 10)) (.lit 1))), true) :: ((.eq (.lit 0) (.gi 15 (.var 2) (.mul (.var (nLk + 0)) (.lit 10)) (.lit 2))), true) :: ((.eq (.lit 0) (.gi 15 (.var 2) (.mul (.var (nLk + 0)) (.lit 10)) (.lit 3))), true) :: ((.same (.lit false) (.gb 0 qLwLk733 (.lit 0) (.lit 0))), true) :: ((.same (.lit true) (.gb 0 qLwLk734 (.lit 0) (.lit 0))), true) :: ((.eq (.var (nLk + 14)) (.gi 15 (.var 2) (.mul (.var (nLk + 0)) (.lit 10)) (.lit 5))), true) :: ((.eq (.var (nLk + 15)) (.gi 15 (.var 2) (.mul (.var (nLk + 0)) (.lit 10)) (.lit 6))), true) :: ((.gb 0 qLwLk735 (.lit 0) (.lit 0)), true) :: ((.gb 0 qLwLk732 (.lit 0) (.lit 0)), true) :: ((.lt (.var (nLk + 0)) (.lit 0)), false) :: ((.lt (.add (.var 7) (.lit 1)) (.var (nLk + 0))), false) :: tLwLk731)⟩,
  ⟨.normal, 4, ⟨[], [(15, (.var (nLk + 15))), (14, (.var (nLk + 14))), (13, (.var (nLk + 13))), (12, (.var (nLk + 12))), (11, (.var (nLk + 11))), (10, (.var (nLk + 10))), (0, (.add (.var (nLk + 0)) (.lit 1)))], [], [], [], [], [], []⟩, (((.lt (.var (nLk + 0)) (.var 7)), true) :: ((.gb 0 qLwLk734 (.lit 0) (.lit 0)), true) :: ((.gb 0 qLwLk733 (.lit 0) (.lit 0)), false) :: ((.lt (.var 7) (.var (nLk + 0))), false) :: ((.eq (.lit 0) (.gi 15 (.var 2) (.mul (.var (nLk + 0)) (.lit 10)) (.lit 0))), true) :: ((.eq (.lit 0) (.gi 15 (.var 2) (.mul (.var (nLk + 0)) (.lit 10)) (.lit 1))), true) :: ((.eq (.lit 0) (.gi 15 (.var 2) (.mul (.var (nLk + 0)) (.lit 10)) (.lit 2))), true) :: ((.eq (.lit 0) (.gi 15 (.var 2) (.mul (.var (nLk + 0)) (.lit 10)) (.lit 3))), true) :: ((.same (.lit false) (.gb 0 qLwLk733 (.lit 0) (.lit 0))), true) :: ((.same (.lit true) (.gb 0 qLwLk734 (.lit 0) (.lit 0))), true) :: ((.eq (.var (nLk + 14)) (.gi 15 (.var 2) (.mul (.var (nLk + 0)) (.lit 10)) (.lit 5))), true) :: ((.eq (.var (nLk + 15)) (.gi 15 (.var 2) (.mul (.var (nLk + 0)) (.lit 10)) (.lit 6))), true) :: ((.gb 0 qLwLk735 (.lit 0) (.lit 0)), true) :: ((.gb 0 qLwLk732 (.lit 0) (.lit 0)), true) :: ((.lt (.var (nLk + 0)) (.lit 0)), false) :: ((.lt (.add (.var 7) (.lit 1)) (.var (nLk + 0))), false) :: tLwLk731)⟩,
  ⟨.normal, 4, ⟨[], [(15, (.var (nLk + 15))), (14, (.var (nLk + 14))), (13, (.var (nLk + 13))), (12, (.var (nLk + 12))), (11, (.var (nLk + 11))), (10, (.var (nLk + 10))), (0, (.add (.var (nLk + 0)) (.lit 1)))], [], [], [], [], [], []⟩, (((.lt (.var (nLk + 0)) (.var 7)), false) :: ((.gb 0 qLwLk734 (.lit 0) (.lit 0)), true) :: ((.gb 0 qLwLk733 (.lit 0) (.lit 0)), false) :: ((.lt (.var 7) (.var (nLk + 0))), false) :: ((.eq (.lit 0) (.gi 15 (.var 2) (.mul (.var (nLk + 0)) (.lit 10)) (.lit 0))), true) :: ((.eq (.lit 0) (.gi 15 (.var 2) (.mul (.var (nLk + 0)) (.lit 10)) (.lit 1))), true) :: ((.eq (.lit 0) (.gi 15 (.var 2) (.mul (.var (nLk + 0)) (.lit 10)) (.lit 2))), true) :: ((.eq (.lit 0) (.gi 15 (.var 2) (.mul (.var (nLk + 0)) (.lit 10)) (.lit 3))), true) :: ((.same (.lit false) (.gb 0 qLwLk733 (.lit 0) (.lit 0))), true) :: ((.same (.lit true) (.gb 0 qLwLk734 (.lit 0) (.lit 0))), true) :: ((.eq (.var (nLk + 14)) (.gi 15 (.var 2) (.mul (.var (nLk + 0)) (.lit 10)) (.lit 5))), true) :: ((.eq (.var (nLk + 15)) (.gi 15 (.var 2) (.mul (.var (nLk + 0)) (.lit 10)) (.lit 6))), true) :: ((.gb 0 qLwLk735 (.lit 0) (.lit 0)), true) :: ((.gb 0 qLwLk732 (.lit 0) (.lit 0)), true) :: ((.lt (.var (nLk + 0)) (.lit 0)), false) :: ((.lt (.add (.var 7) (.lit 1)) (.var (nLk + 0))), false) :: tLwLk731)⟩]
def sLk73k4c1 : List SumT := [
  ⟨.exit 0, 0, ⟨[], [], [], [], [], [], [], []⟩, (((.lt (.var 7) (.var (nLk + 0))), true) :: ((.lt (.var (nLk + 0)) (.lit 0)), false) :: ((.lt (.add (.var 7) (.lit 1)) (.var (nLk + 0))), false) :: tLwLk731)⟩]
theorem pcLk73_eq : (eLk7 Try.prog 3).pc = pcLk73 := by kernel_rfl
theorem avLk73 : pav nLk (nLk + 64) pcLk73 = true := by kernel_rfl
theorem stLk73_ok : mAll nLk 0 0 Try.prog (eLk7 Try.prog 3).fr (eLk7 Try.prog 3).hp (hdLk7 Try.prog 3 0).fr (hdLk7 Try.prog 3 0).hp = some stLk73 := by kernel_rfl
theorem oneLk73 : (loopsAt Try.prog fLk 4).length = 1 := by kernel_rfl
theorem bLk73k0c0 : sumsLk7 Try.prog 3 0 0 = some sLk73k0c0 := by kernel_rfl
theorem bLk73k0c1 : sumsLk7 Try.prog 3 0 1 = some sLk73k0c1 := by kernel_rfl
theorem bLk73k1c0 : sumsLk7 Try.prog 3 1 0 = some sLk73k1c0 := by kernel_rfl
theorem bLk73k1c1 : sumsLk7 Try.prog 3 1 1 = some sLk73k1c1 := by kernel_rfl
theorem bLk73k2c0 : sumsLk7 Try.prog 3 2 0 = some sLk73k2c0 := by kernel_rfl
theorem bLk73k2c1 : sumsLk7 Try.prog 3 2 1 = some sLk73k2c1 := by kernel_rfl
theorem bLk73k3c0 : sumsLk7 Try.prog 3 3 0 = some sLk73k3c0 := by kernel_rfl
theorem bLk73k3c1 : sumsLk7 Try.prog 3 3 1 = some sLk73k3c1 := by kernel_rfl
theorem bLk73k4c0 : sumsLk7 Try.prog 3 4 0 = some sLk73k4c0 := by kernel_rfl
theorem bLk73k4c1 : sumsLk7 Try.prog 3 4 1 = some sLk73k4c1 := by kernel_rfl
theorem hLk73k0 : (hdLk7 Try.prog 3 0).pc = basLk ++ rng7 3 ++ pcLk73 := by kernel_rfl
theorem JS73k0 {ν : Env Gh} {s : A7} {y : Vals Gh} : JS7 3 0 ν s y ↔ s.dn = false ∧ (s.st = 1) ∧ (rg7 (y.i 3) ∧ rg7 (y.i 4)) ∧ wnt7 (ν.i 0) (ν.i 1) 3 0 s = (y.i 10, y.i 11, y.i 12, y.i 13) := Iff.rfl
theorem hLk73k1 : (hdLk7 Try.prog 3 1).pc = basLk ++ rng7 3 ++ pcLk73 := by kernel_rfl
theorem JS73k1 {ν : Env Gh} {s : A7} {y : Vals Gh} : JS7 3 1 ν s y ↔ s.dn = false ∧ (s.st = 2 ∧ s.t = y.i 3) ∧ (rg7 (y.i 3) ∧ rg7 (y.i 4)) ∧ wnt7 (ν.i 0) (ν.i 1) 3 0 s = (y.i 10, y.i 11, y.i 12, y.i 13) := Iff.rfl
theorem hLk73k2 : (hdLk7 Try.prog 3 2).pc = basLk ++ rng7 3 ++ pcLk73 := by kernel_rfl
theorem JS73k2 {ν : Env Gh} {s : A7} {y : Vals Gh} : JS7 3 2 ν s y ↔ s.dn = false ∧ (s.st = 3 ∧ s.t = y.i 3) ∧ (rg7 (y.i 3) ∧ rg7 (y.i 4)) ∧ wnt7 (ν.i 0) (ν.i 1) 3 0 s = (y.i 10, y.i 11, y.i 12, y.i 13) := Iff.rfl
theorem hLk73k3 : (hdLk7 Try.prog 3 3).pc = basLk ++ rng7 3 ++ pcLk73 := by kernel_rfl
theorem JS73k3 {ν : Env Gh} {s : A7} {y : Vals Gh} : JS7 3 3 ν s y ↔ s.dn = false ∧ (s.st = 4 ∧ s.t = y.i 3 ∧ s.x = y.i 4) ∧ (rg7 (y.i 3) ∧ rg7 (y.i 4)) ∧ wnt7 (ν.i 0) (ν.i 1) 3 0 s = (y.i 10, y.i 11, y.i 12, y.i 13) := Iff.rfl
theorem hLk73k4 : (hdLk7 Try.prog 3 4).pc = basLk ++ pcLk73 := by kernel_rfl
theorem JS73k4 {ν : Env Gh} {s : A7} {y : Vals Gh} : JS7 3 4 ν s y ↔ s.dn = true ∧ s.cd = y.i 14 ∧ s.v = y.i 15 := Iff.rfl
end Go.Proofs.Ytlmenjenkpnacaa
end

section
namespace Go.Proofs.Ytlmenjenkpnacaa
open Go Go.Sy Go.RowKit

theorem oL7_ok73 : OOK Try.prog (oL7 Try.prog) inM := pruned_ok pr (sameN_ok (opStoreB_ok pr (opCap_ok (opLoadSt_ok (opAppS_ok (opLoadS_ok (opNilZ_ok (opAppendR_ok pr (opAppendW_ok (opSliceV_ok pr (opSliceT_ok qO_ok)))))))))))
structure FLk73 (ν : Env Gh) : Prop where
  len0 : 0 ≤ ν.i 7
  len1 : ν.i 7 ≤ 200
  told : ∀ j, 0 ≤ (tolds (ν.g 1).t j).1 ∧ (tolds (ν.g 1).t j).1 < 18446744073709551616
  seen : nG (ν.g 2) = (se7 3 ν (ν.g 1).t (ν.i 7 + 1).toNat).map SC.nums
  a0 : 0 ≤ ν.i 0
  a1 : ν.i 0 < 65535 - 1 * ν.i 1
  n1 : 2 ≤ ν.i 1
  n2 : ν.i 1 ≤ 256
  pw : Pow (ν.i 1)
theorem factsLk73 {ν : Env Gh} (hI : ν.I = inM) (h : pcDen ν pcLk73) : FLk73 ν := by
  have h2 := h
  simp only [pcLk73, qLwLk730, tLwLk731, qLwLk731, pcDen_cons_iff, pcDen_nil_iff] at h2
  have h8 : (SB.gb 0 (.app 83 (.var 1) (.var 0) (.lit 0) (.lit 0) (.lit 0) (.lit 0) .nil) (.lit 0) (.lit 0)).den ν = true := pcAt h 10 rfl
  rw [x83 hI] at h8
  have h0 : (seen7B 2 (beg7 3)).den ν = true := pcAt h 0 rfl
  simp only [seen7B, SB.den, SG.den, SI.den, hI, inM, xga, SL.den] at h0
  have h1 : (nG (ν.g 2) == List.map SC.nums (seen7 ((beg7 3).den ν) (ν.g 1).t (ν.i 7 + 1).toNat)) = true := h0
  rw [se7_eq ν (by decide)] at h1
  have hpw : (powB (.var 1)).den ν = true := pcAt h 6 rfl
  rw [powB_den] at hpw
  have h3 := h2.2.2
  simp only [SB.den, decide_eq_true_eq, decide_eq_false_iff_not] at h3
  simp only [SI.den] at h3
  exact ⟨by omega, by omega, fun j => tolds_u64 h8 j, eq_of_beq h1, by omega, by omega, by omega, by omega, hpw⟩
attribute [local irreducible] nmAt
theorem hpdLk73 {ν : Env Gh} (hI : ν.I = inM) (h : pcDen ν pcLk73) {k : Nat} (hk : k < 5) {x : Vals Gh} (hJ : JL7 3 k ν x) : pcDen (ν.at nLk x) (hdLk7 Try.prog 3 k).pc := by
  have rf : RF nLk ν x (ν.at nLk x) := RF.self rfl
  have F := factsLk73 hI h
  have F0 := F.len0
  have F1 := F.len1
  have hold : pcDen (ν.at nLk x) pcLk73 := pcDen_agree (at_agree (ρ := fun _ => 0) (ρ' := fun _ => 0) (fun _ _ => rfl)) avLk73 h
  have r0 : (ν.at nLk x).i nLk = x.i 0 := rf.i 0 (by decide)
  obtain ⟨j0, j1, j2⟩ := hJ
  have hbas : pcDen (ν.at nLk x) basLk := by
    refine pcDen_cons (lt_of ?_) (pcDen_one (lt_of ?_))
    · simp only [SI.den, r0, Bool.false_eq_true, iff_false]; omega
    · simp only [SI.den, r0, rf.io 7 (by decide), Bool.false_eq_true, iff_false]; omega
  have u1 : ∀ m : Nat, m < 64 → rg7 (x.i m) → pcDen (ν.at nLk x) (u64C (.var (nLk + m))) := fun m hm r => by
    refine pcDen_cons (lt_of ?_) (pcDen_one (lt_of ?_))
    · simp only [SI.den, rf.i m hm, Bool.false_eq_true, iff_false]; have := r.1; omega
    · simp only [SI.den, rf.i m hm, iff_true]; have := r.2; omega
  match k, hk with
  | 0, _ =>
    obtain ⟨_, _, ⟨r3, r4⟩, _⟩ := JS73k0.1 j2
    rw [hLk73k0]
    exact pcDen_append (pcDen_append hbas (pcDen_append (u1 3 (by decide) r3) (u1 4 (by decide) r4))) hold
  | 1, _ =>
    obtain ⟨_, _, ⟨r3, r4⟩, _⟩ := JS73k1.1 j2
    rw [hLk73k1]
    exact pcDen_append (pcDen_append hbas (pcDen_append (u1 3 (by decide) r3) (u1 4 (by decide) r4))) hold
  | 2, _ =>
    obtain ⟨_, _, ⟨r3, r4⟩, _⟩ := JS73k2.1 j2
    rw [hLk73k2]
    exact pcDen_append (pcDen_append hbas (pcDen_append (u1 3 (by decide) r3) (u1 4 (by decide) r4))) hold
  | 3, _ =>
    obtain ⟨_, _, ⟨r3, r4⟩, _⟩ := JS73k3.1 j2
    rw [hLk73k3]
    exact pcDen_append (pcDen_append hbas (pcDen_append (u1 3 (by decide) r3) (u1 4 (by decide) r4))) hold
  | 4, _ => rw [hLk73k4]; exact pcDen_append hbas hold
theorem nxLk73 {ν : Env Gh} (hI : ν.I = inM) (h : pcDen ν pcLk73) {x y : Vals Gh} {k : Nat} (hk : k < 5) {g : Tgt} (hg : (headsLk7 Try.prog 3)[k]? = some g) (j0 : 0 ≤ x.i 0) (hle : x.i 0 ≤ ν.i 7) (y0 : y.i 0 = x.i 0 + 1)
    (hS : JS7 3 k ν (if x.i 0 < ν.i 7 then st7 3 ν (it7 3 ν (ν.g 1).t (x.i 0).toNat) (tolds (ν.g 1).t (x.i 0).toNat).1 (tolds (ν.g 1).t (x.i 0).toNat).2 else it7 3 ν (ν.g 1).t (x.i 0).toNat) y) {Ow : Prop} (ho : Ow) :
    JL7 3 k ν y ∧ pcDen (ν.at nLk y) g.pc ∧ (ν.i 7 + 2 - y.i 0).toNat < (ν.i 7 + 2 - x.i 0).toNat ∧ Ow := by
  have hJ : JL7 3 k ν y := by
    refine ⟨by omega, by omega, ?_⟩
    rw [y0, it7_next _ _ _ j0 hle]
    exact hS
  have e : g = hdLk7 Try.prog 3 k := by unfold hdLk7 hdAt; rw [hg]; rfl
  refine ⟨hJ, ?_, by omega, ho⟩
  rw [e]
  exact hpdLk73 hI h hk hJ
theorem loopLk73 {O' : Orac} (oo' : OOK Try.prog O' inM) : OOK Try.prog (O'.withLoop fLk 4 nLk (eLk7 Try.prog 3).fr (eLk7 Try.prog 3).hp (mkM nLk (gLk (eLk7 Try.prog 3).fr) (bdLk7 Try.prog 3))) inM := by
  have hb : ∀ {ν : Env Gh}, (∀ x ∈ bdLk7 Try.prog 3, x.1.den ν ≠ x.2) → pcDen ν pcLk73 := fun h => by unfold bdLk7 at h; rw [pcLk73_eq] at h; exact bads_of h
  refine loopC_ok pr oL7_ok73 (rfl : nLk = nmAt 4) (by decide +kernel) oneLk73 (heads := headsLk7 Try.prog 3) (tg := gLk (eLk7 Try.prog 3).fr) (sums := [[(caseA .nil, sLk73k0c0), (caseB, sLk73k0c1)], [(caseA .nil, sLk73k1c0), (caseB, sLk73k1c1)], [(caseA .nil, sLk73k2c0), (caseB, sLk73k2c1)], [(caseA .nil, sLk73k3c0), (caseB, sLk73k3c1)], [(caseE, sLk73k4c0), (caseB, sLk73k4c1)]]) (start := stLk73) (h0 := hdLk7 Try.prog 3 0) (n := 6000) (it := 0) (ghL []) rfl ?_ rfl stLk73_ok (JL7 3) (fun _ ν x => (ν.i 7 + 2 - x.i 0).toNat) ?_ ?_ ?_ oo'
  · intro i h ss hh hs c hc
    match i, hh, hs with
    | 0, hh, hs =>
      cases hs
      have e : h = hdLk7 Try.prog 3 0 := by unfold hdLk7 hdAt; rw [hh]; rfl
      subst e
      simp only [List.mem_cons, List.not_mem_nil, or_false] at hc
      rcases hc with rfl | rfl
      · exact bLk73k0c0
      · exact bLk73k0c1
    | 1, hh, hs =>
      cases hs
      have e : h = hdLk7 Try.prog 3 1 := by unfold hdLk7 hdAt; rw [hh]; rfl
      subst e
      simp only [List.mem_cons, List.not_mem_nil, or_false] at hc
      rcases hc with rfl | rfl
      · exact bLk73k1c0
      · exact bLk73k1c1
    | 2, hh, hs =>
      cases hs
      have e : h = hdLk7 Try.prog 3 2 := by unfold hdLk7 hdAt; rw [hh]; rfl
      subst e
      simp only [List.mem_cons, List.not_mem_nil, or_false] at hc
      rcases hc with rfl | rfl
      · exact bLk73k2c0
      · exact bLk73k2c1
    | 3, hh, hs =>
      cases hs
      have e : h = hdLk7 Try.prog 3 3 := by unfold hdLk7 hdAt; rw [hh]; rfl
      subst e
      simp only [List.mem_cons, List.not_mem_nil, or_false] at hc
      rcases hc with rfl | rfl
      · exact bLk73k3c0
      · exact bLk73k3c1
    | 4, hh, hs =>
      cases hs
      have e : h = hdLk7 Try.prog 3 4 := by unfold hdLk7 hdAt; rw [hh]; rfl
      subst e
      simp only [List.mem_cons, List.not_mem_nil, or_false] at hc
      rcases hc with rfl | rfl
      · exact bLk73k4c0
      · exact bLk73k4c1
    | m + 5, hh, hs => cases hs
  · intro ν hI hbd
    have hp' := hb hbd
    have F := factsLk73 hI hp'
    have F0 := F.len0
    generalize hy : stLk73.vals (ghL []) ν = y
    have y0 : y.i 0 = 0 := by rw [← hy]; simp only [stLk73, Mt.vals, lkp_cons, lkp_nil, Nat.reduceEqDiff, reduceIte, SI.den]
    have hJ : JL7 3 0 ν y := by
      refine ⟨by omega, by omega, ?_⟩
      have em : (min (y.i 0) (ν.i 7)).toNat = 0 := by omega
      rw [em]
      refine JS73k0.2 ?_
      simp only [← hy]
      simp [stLk73, Mt.vals, lkp_cons, lkp_nil, SI.den, it7, iterS, s7, dn7_0, dn7_1, dn7_2, dn7_3, wnt7, rg7]
    exact ⟨hJ, hpdLk73 hI hp' (by decide) hJ, by constructor <;> simp [stLk73]⟩
  · intro i h ss hh hs ν x hI hbd hJ _
    have hp' := hb hbd
    have F := factsLk73 hI hp'
    have F0 := F.len0
    have rf : RF nLk ν x (ν.at nLk x) := RF.self rfl
    have r0 : (ν.at nLk x).i nLk = x.i 0 := rf.i 0 (by decide)
    have r7 : (ν.at nLk x).i 7 = ν.i 7 := rf.io 7 (by decide)
    have r3 : (ν.at nLk x).i 3 = ν.i 3 := rf.io 3 (by decide)
    have r4 : (ν.at nLk x).i (nLk + 4) = x.i 4 := rf.i 4 (by decide)
    obtain ⟨j0, j1, j2⟩ := hJ
    by_cases hle : x.i 0 ≤ ν.i 7
    · have em : (min (x.i 0) (ν.i 7)).toNat = (x.i 0).toNat := by omega
      rw [em] at j2
      have hr : ∀ j : Int, 0 ≤ j → j < 10 → (getC ((ν.at nLk x).g 2).s ((ν.at nLk x).i nLk * 10 + j)).x = (getC (ob7 3 ν (it7 3 ν (ν.g 1).t (x.i 0).toNat)) j).x ∧ (getC ((ν.at nLk x).g 2).s ((ν.at nLk x).i nLk * 10 + j)).l = (getC (ob7 3 ν (it7 3 ν (ν.g 1).t (x.i 0).toNat)) j).l := fun j a b => by
        rw [rf.go 2 (by decide), r0]
        exact rows7R F.seen j0 (by omega) j a b
      match i, hs with
      | 0, hs =>
        cases hs
        obtain ⟨d1, e1, d7, d8⟩ := JS73k0.1 j2
        have hA : pcDen (ν.at nLk x) (caseA .nil) := by
          refine caseA_den (rf.I.trans hI) hr rfl (by rw [r0, r7]; exact hle) ?_
          unfold ob7
          rw [obs7_live d1, show wnt7 (p7 3 (ν.i 0)) (p7 3 (ν.i 1)) (kI 3) (tk7 3 (ν.i 3)) (it7 3 ν (ν.g 1).t (x.i 0).toNat) = _ from d8, rf.i 10 (by decide), rf.i 11 (by decide), rf.i 12 (by decide), rf.i 13 (by decide)]
          simp [hel7, kI, tk7, e1, SL.den, SI.den, r3, r4]
        exact ⟨_, List.mem_cons_self .., hA⟩
      | 1, hs =>
        cases hs
        obtain ⟨d1, ⟨e1, e2⟩, d7, d8⟩ := JS73k1.1 j2
        have hA : pcDen (ν.at nLk x) (caseA .nil) := by
          refine caseA_den (rf.I.trans hI) hr rfl (by rw [r0, r7]; exact hle) ?_
          unfold ob7
          rw [obs7_live d1, show wnt7 (p7 3 (ν.i 0)) (p7 3 (ν.i 1)) (kI 3) (tk7 3 (ν.i 3)) (it7 3 ν (ν.g 1).t (x.i 0).toNat) = _ from d8, rf.i 10 (by decide), rf.i 11 (by decide), rf.i 12 (by decide), rf.i 13 (by decide)]
          simp [hel7, kI, tk7, e1, SL.den, SI.den, r3, r4]
        exact ⟨_, List.mem_cons_self .., hA⟩
      | 2, hs =>
        cases hs
        obtain ⟨d1, ⟨e1, e2⟩, d7, d8⟩ := JS73k2.1 j2
        have hA : pcDen (ν.at nLk x) (caseA .nil) := by
          refine caseA_den (rf.I.trans hI) hr rfl (by rw [r0, r7]; exact hle) ?_
          unfold ob7
          rw [obs7_live d1, show wnt7 (p7 3 (ν.i 0)) (p7 3 (ν.i 1)) (kI 3) (tk7 3 (ν.i 3)) (it7 3 ν (ν.g 1).t (x.i 0).toNat) = _ from d8, rf.i 10 (by decide), rf.i 11 (by decide), rf.i 12 (by decide), rf.i 13 (by decide)]
          simp [hel7, kI, tk7, e1, SL.den, SI.den, r3, r4]
        exact ⟨_, List.mem_cons_self .., hA⟩
      | 3, hs =>
        cases hs
        obtain ⟨d1, ⟨e1, e2, e3⟩, d7, d8⟩ := JS73k3.1 j2
        have hA : pcDen (ν.at nLk x) (caseA .nil) := by
          refine caseA_den (rf.I.trans hI) hr rfl (by rw [r0, r7]; exact hle) ?_
          unfold ob7
          rw [obs7_live d1, show wnt7 (p7 3 (ν.i 0)) (p7 3 (ν.i 1)) (kI 3) (tk7 3 (ν.i 3)) (it7 3 ν (ν.g 1).t (x.i 0).toNat) = _ from d8, rf.i 10 (by decide), rf.i 11 (by decide), rf.i 12 (by decide), rf.i 13 (by decide)]
          simp [hel7, kI, tk7, e1, SL.den, SI.den, r3, r4]
        exact ⟨_, List.mem_cons_self .., hA⟩
      | 4, hs =>
        cases hs
        obtain ⟨d1, d2, d3⟩ := JS73k4.1 j2
        refine ⟨_, List.mem_cons_self .., caseE_den (rf.I.trans hI) hr (by rw [r0, r7]; exact hle) ?_⟩
        unfold ob7
        rw [obs7_dead d1, d2, d3, rf.i 14 (by decide), rf.i 15 (by decide)]
      | m + 5, hs => cases hs
    · have hB : pcDen (ν.at nLk x) caseB := pcDen_one (lt_of (by simp only [SI.den, r0, r7, iff_true]; omega))
      match i, hs with
      | 0, hs => cases hs; exact ⟨_, List.mem_cons_of_mem _ (List.mem_cons_self ..), hB⟩
      | 1, hs => cases hs; exact ⟨_, List.mem_cons_of_mem _ (List.mem_cons_self ..), hB⟩
      | 2, hs => cases hs; exact ⟨_, List.mem_cons_of_mem _ (List.mem_cons_self ..), hB⟩
      | 3, hs => cases hs; exact ⟨_, List.mem_cons_of_mem _ (List.mem_cons_self ..), hB⟩
      | 4, hs => cases hs; exact ⟨_, List.mem_cons_of_mem _ (List.mem_cons_self ..), hB⟩
      | m + 5, hs => cases hs
  · intro i h ss hh hs c hc t ht ν x ν2 hI hbd hJ hpch _ rf hpc
    have hp' := hb hbd
    have F := factsLk73 hI hp'
    have F0 := F.len0
    have F1 := F.len1
    have F_len0 := F.len0
    have F_len1 := F.len1
    have F_a0 := F.a0
    have F_a1 := F.a1
    have F_n1 := F.n1
    have F_n2 := F.n2
    have F_pw := F.pw
    have hI2 : ν2.I = inM := rf.I.trans hI
    have qa : ν2.i 0 = ν.i 0 := rf.io 0 (by decide)
    have qn : ν2.i 1 = ν.i 1 := rf.io 1 (by decide)
    have qc : ν2.i 3 = ν.i 3 := rf.io 3 (by decide)
    have q7 : ν2.i 7 = ν.i 7 := rf.io 7 (by decide)
    have qg : ν2.g 1 = ν.g 1 := rf.go 1 (by decide)
    have q0 : ν2.i (nLk + 0) = x.i 0 := rf.i 0 (by decide)
    have q2 : ν2.i (nLk + 2) = x.i 2 := rf.i 2 (by decide)
    have q3 : ν2.i (nLk + 3) = x.i 3 := rf.i 3 (by decide)
    have q4 : ν2.i (nLk + 4) = x.i 4 := rf.i 4 (by decide)
    have q10 : ν2.i (nLk + 10) = x.i 10 := rf.i 10 (by decide)
    have q11 : ν2.i (nLk + 11) = x.i 11 := rf.i 11 (by decide)
    have q12 : ν2.i (nLk + 12) = x.i 12 := rf.i 12 (by decide)
    have q13 : ν2.i (nLk + 13) = x.i 13 := rf.i 13 (by decide)
    have q14 : ν2.i (nLk + 14) = x.i 14 := rf.i 14 (by decide)
    have q15 : ν2.i (nLk + 15) = x.i 15 := rf.i 15 (by decide)
    obtain ⟨j0, j1, j2⟩ := hJ
    have T0 := F.told (x.i 0).toNat
    match i, hh, hs with
    | 0, hh, hs =>
      cases hs
      simp only [List.mem_cons, List.not_mem_nil, or_false] at hc
      rcases hc with rfl | rfl
      · simp only [sLk73k0c0, tLwLk730, qLwLk730, qLwLk731, qLwLk732, qLwLk733, qLwLk734, List.mem_cons, List.not_mem_nil, or_false] at ht
        rcases ht with rfl | rfl | rfl | rfl
        iterate 2 (exfalso; first | exact ab2 hpc 0 6 rfl rfl rfl | exact ab2 hpc 0 8 rfl rfl rfl | exact ab2 hpc 1 7 rfl rfl rfl | exact ab2 hpc 1 9 rfl rfl rfl | exact ab2 hpc 0 7 rfl rfl rfl | exact ab2 hpc 0 9 rfl rfl rfl)
        all_goals
          intro g hg
          dsimp only at hg ⊢
          simp only [pcDen_cons_iff, pcDen_nil_iff, SB.den, decide_eq_true_eq, decide_eq_false_iff_not, beq_iff_eq, beq_eq_false_iff_ne] at hpc
          simp only [SI.den, SG.den, gi10u hI2, gb11u hI2, q7, qn, qa, qg, q0, q2, q3, w64_64] at hpc
          have hle : x.i 0 ≤ ν.i 7 := by omega
          have em : (min (x.i 0) (ν.i 7)).toNat = (x.i 0).toNat := by omega
          rw [em] at j2
          generalize hy : Mt.vals _ (ghL []) ν2 = y
          have y0 : y.i 0 = x.i 0 + 1 := by rw [← hy]; simp only [Mt.vals, lkp_cons, lkp_nil, Nat.reduceEqDiff, reduceIte, SI.den, q0]
          refine nxLk73 hI hp' (by decide) hg j0 hle y0 ?_ (by constructor <;> simp)
        · rw [if_pos (by omega)]
          generalize it7 3 ν (ν.g 1).t (x.i 0).toNat = S at j2 ⊢
          obtain ⟨st, b, t, xx, wn, dn', cd, v⟩ := S
          obtain ⟨d1, e1, ⟨r3, r4⟩, d8⟩ := JS73k0.1 j2
          dsimp only at *
          subst d1
          skip
          all_goals
            subst e1
            have mk2 := mask_modK (x.i 3) (ν.i 1) F.pw r3.1 r3.2
            skip
            have hw := d8
            refine JS73k1.2 ?_
            simp only [← hy, Mt.vals, lkp_cons, lkp_nil, Nat.reduceEqDiff, reduceIte, SI.den, SG.den, gi10u hI2, gb11u hI2, qa, qn, qc, qg, q0, q2, q3, q4, q10, q11, q12, q13, mk2, IntKind.wrap_u64]
            generalize tolds (ν.g 1).t (x.i 0).toNat = T at hpc T0 ⊢
            obtain ⟨tv, tw⟩ := T
            dsimp only at hpc T0 ⊢
            cases tw <;> first
              | (exfalso; omega)
              | (exfalso; simp at hpc; done)
              | (simp [st7, p7, tk7, kI, A7.step, A7.fin, A7.ahead, wnt7]; done)
              | (simp [st7, p7, tk7, kI, A7.step, A7.fin, A7.ahead, wnt7] <;> omega)
              | (simp [st7, p7, tk7, kI, A7.step, A7.fin, A7.ahead, wnt7]; simp [wnt7, A7.ahead] at hw; omega)
        · rw [if_neg (by omega)]
          refine JS73k0.2 ?_
          simp only [← hy, Mt.vals, lkp_cons, lkp_nil, Nat.reduceEqDiff, reduceIte, SI.den, q2, q3, q4, q10, q11, q12, q13, q14, q15]
          exact JS73k0.1 j2
      · simp only [sLk73k0c1, qLwLk730, tLwLk731, qLwLk731, List.mem_cons, List.not_mem_nil, or_false] at ht
        subst ht
        exact ⟨fun g hg => by cases hg; exact pcDen_nil _, by constructor <;> simp⟩
    | 1, hh, hs =>
      cases hs
      simp only [List.mem_cons, List.not_mem_nil, or_false] at hc
      rcases hc with rfl | rfl
      · simp only [sLk73k1c0, tLwLk730, qLwLk730, qLwLk731, qLwLk732, qLwLk733, qLwLk734, List.mem_cons, List.not_mem_nil, or_false] at ht
        rcases ht with rfl | rfl | rfl | rfl | rfl
        iterate 2 (exfalso; first | exact ab2 hpc 0 6 rfl rfl rfl | exact ab2 hpc 0 8 rfl rfl rfl | exact ab2 hpc 1 7 rfl rfl rfl | exact ab2 hpc 1 9 rfl rfl rfl | exact ab2 hpc 0 7 rfl rfl rfl | exact ab2 hpc 0 9 rfl rfl rfl)
        all_goals
          intro g hg
          dsimp only at hg ⊢
          simp only [pcDen_cons_iff, pcDen_nil_iff, SB.den, decide_eq_true_eq, decide_eq_false_iff_not, beq_iff_eq, beq_eq_false_iff_ne] at hpc
          simp only [SI.den, SG.den, gi10u hI2, gb11u hI2, q7, qn, qa, qg, q0, q2, q3, w64_64] at hpc
          have hle : x.i 0 ≤ ν.i 7 := by omega
          have em : (min (x.i 0) (ν.i 7)).toNat = (x.i 0).toNat := by omega
          rw [em] at j2
          generalize hy : Mt.vals _ (ghL []) ν2 = y
          have y0 : y.i 0 = x.i 0 + 1 := by rw [← hy]; simp only [Mt.vals, lkp_cons, lkp_nil, Nat.reduceEqDiff, reduceIte, SI.den, q0]
          refine nxLk73 hI hp' (by decide) hg j0 hle y0 ?_ (by constructor <;> simp)
        · rw [if_pos (by omega)]
          generalize it7 3 ν (ν.g 1).t (x.i 0).toNat = S at j2 ⊢
          obtain ⟨st, b, t, xx, wn, dn', cd, v⟩ := S
          obtain ⟨d1, ⟨e1, e2⟩, ⟨r3, r4⟩, d8⟩ := JS73k1.1 j2
          dsimp only at *
          subst d1
          skip
          all_goals
            subst e1
            subst e2
            have mk2 := mask_modK (x.i 3) (ν.i 1) F.pw r3.1 r3.2
            skip
            have hw := d8
            refine JS73k4.2 ?_
            simp only [← hy, Mt.vals, lkp_cons, lkp_nil, Nat.reduceEqDiff, reduceIte, SI.den, SG.den, gi10u hI2, gb11u hI2, qa, qn, qc, qg, q0, q2, q3, q4, q10, q11, q12, q13, mk2, IntKind.wrap_u64]
            generalize tolds (ν.g 1).t (x.i 0).toNat = T at hpc T0 ⊢
            obtain ⟨tv, tw⟩ := T
            dsimp only at hpc T0 ⊢
            by_cases h0 : IntKind.i64.wrap (tv - x.i 3) < 1 <;> cases tw <;> first
              | (exfalso; omega)
              | (exfalso; simp at hpc; done)
              | (simp [st7, p7, tk7, kI, A7.step, A7.fin, A7.ahead, wnt7, h0]; done)
              | (simp [st7, p7, tk7, kI, A7.step, A7.fin, A7.ahead, wnt7, h0] <;> omega)
              | (simp [st7, p7, tk7, kI, A7.step, A7.fin, A7.ahead, wnt7, h0]; simp [wnt7, A7.ahead] at hw; omega)
        · rw [if_pos (by omega)]
          generalize it7 3 ν (ν.g 1).t (x.i 0).toNat = S at j2 ⊢
          obtain ⟨st, b, t, xx, wn, dn', cd, v⟩ := S
          obtain ⟨d1, ⟨e1, e2⟩, ⟨r3, r4⟩, d8⟩ := JS73k1.1 j2
          dsimp only at *
          subst d1
          skip
          all_goals
            subst e1
            subst e2
            have mk2 := mask_modK (x.i 3) (ν.i 1) F.pw r3.1 r3.2
            skip
            have hw := d8
            refine JS73k2.2 ?_
            simp only [← hy, Mt.vals, lkp_cons, lkp_nil, Nat.reduceEqDiff, reduceIte, SI.den, SG.den, gi10u hI2, gb11u hI2, qa, qn, qc, qg, q0, q2, q3, q4, q10, q11, q12, q13, mk2, IntKind.wrap_u64]
            generalize tolds (ν.g 1).t (x.i 0).toNat = T at hpc T0 ⊢
            obtain ⟨tv, tw⟩ := T
            dsimp only at hpc T0 ⊢
            by_cases h0 : IntKind.i64.wrap (tv - x.i 3) < 1 <;> cases tw <;> first
              | (exfalso; omega)
              | (exfalso; simp at hpc; done)
              | (simp [st7, p7, tk7, kI, A7.step, A7.fin, A7.ahead, wnt7, h0]; done)
              | (simp [st7, p7, tk7, kI, A7.step, A7.fin, A7.ahead, wnt7, h0] <;> omega)
              | (simp [st7, p7, tk7, kI, A7.step, A7.fin, A7.ahead, wnt7, h0]; simp [wnt7, A7.ahead] at hw; omega)
        · rw [if_neg (by omega)]
          refine JS73k1.2 ?_
          simp only [← hy, Mt.vals, lkp_cons, lkp_nil, Nat.reduceEqDiff, reduceIte, SI.den, q2, q3, q4, q10, q11, q12, q13, q14, q15]
          exact JS73k1.1 j2
      · simp only [sLk73k1c1, qLwLk730, tLwLk731, qLwLk731, List.mem_cons, List.not_mem_nil, or_false] at ht
        subst ht
        exact ⟨fun g hg => by cases hg; exact pcDen_nil _, by constructor <;> simp⟩
    | 2, hh, hs =>
      cases hs
      simp only [List.mem_cons, List.not_mem_nil, or_false] at hc
      rcases hc with rfl | rfl
      · simp only [sLk73k2c0, tLwLk730, qLwLk730, qLwLk731, qLwLk732, qLwLk733, qLwLk734, List.mem_cons, List.not_mem_nil, or_false] at ht
        rcases ht with rfl | rfl | rfl | rfl
        iterate 2 (exfalso; first | exact ab2 hpc 0 6 rfl rfl rfl | exact ab2 hpc 0 8 rfl rfl rfl | exact ab2 hpc 1 7 rfl rfl rfl | exact ab2 hpc 1 9 rfl rfl rfl | exact ab2 hpc 0 7 rfl rfl rfl | exact ab2 hpc 0 9 rfl rfl rfl)
        all_goals
          intro g hg
          dsimp only at hg ⊢
          simp only [pcDen_cons_iff, pcDen_nil_iff, SB.den, decide_eq_true_eq, decide_eq_false_iff_not, beq_iff_eq, beq_eq_false_iff_ne] at hpc
          simp only [SI.den, SG.den, gi10u hI2, gb11u hI2, q7, qn, qa, qg, q0, q2, q3, w64_64] at hpc
          have hle : x.i 0 ≤ ν.i 7 := by omega
          have em : (min (x.i 0) (ν.i 7)).toNat = (x.i 0).toNat := by omega
          rw [em] at j2
          generalize hy : Mt.vals _ (ghL []) ν2 = y
          have y0 : y.i 0 = x.i 0 + 1 := by rw [← hy]; simp only [Mt.vals, lkp_cons, lkp_nil, Nat.reduceEqDiff, reduceIte, SI.den, q0]
          refine nxLk73 hI hp' (by decide) hg j0 hle y0 ?_ (by constructor <;> simp)
        · rw [if_pos (by omega)]
          generalize it7 3 ν (ν.g 1).t (x.i 0).toNat = S at j2 ⊢
          obtain ⟨st, b, t, xx, wn, dn', cd, v⟩ := S
          obtain ⟨d1, ⟨e1, e2⟩, ⟨r3, r4⟩, d8⟩ := JS73k2.1 j2
          dsimp only at *
          subst d1
          skip
          all_goals
            subst e1
            subst e2
            have mk2 := mask_modK (x.i 3) (ν.i 1) F.pw r3.1 r3.2
            skip
            have hw := d8
            refine JS73k3.2 ?_
            simp only [← hy, Mt.vals, lkp_cons, lkp_nil, Nat.reduceEqDiff, reduceIte, SI.den, SG.den, gi10u hI2, gb11u hI2, qa, qn, qc, qg, q0, q2, q3, q4, q10, q11, q12, q13, mk2, IntKind.wrap_u64]
            generalize tolds (ν.g 1).t (x.i 0).toNat = T at hpc T0 ⊢
            obtain ⟨tv, tw⟩ := T
            dsimp only at hpc T0 ⊢
            cases tw <;> first
              | (exfalso; omega)
              | (exfalso; simp at hpc; done)
              | (simp [st7, p7, tk7, kI, A7.step, A7.fin, A7.ahead, wnt7]; done)
              | (simp [st7, p7, tk7, kI, A7.step, A7.fin, A7.ahead, wnt7] <;> omega)
              | (simp [st7, p7, tk7, kI, A7.step, A7.fin, A7.ahead, wnt7]; simp [wnt7, A7.ahead] at hw; omega)
        · rw [if_neg (by omega)]
          refine JS73k2.2 ?_
          simp only [← hy, Mt.vals, lkp_cons, lkp_nil, Nat.reduceEqDiff, reduceIte, SI.den, q2, q3, q4, q10, q11, q12, q13, q14, q15]
          exact JS73k2.1 j2
      · simp only [sLk73k2c1, qLwLk730, tLwLk731, qLwLk731, List.mem_cons, List.not_mem_nil, or_false] at ht
        subst ht
        exact ⟨fun g hg => by cases hg; exact pcDen_nil _, by constructor <;> simp⟩
    | 3, hh, hs =>
      cases hs
      simp only [List.mem_cons, List.not_mem_nil, or_false] at hc
      rcases hc with rfl | rfl
      · simp only [sLk73k3c0, tLwLk730, qLwLk730, qLwLk731, qLwLk732, qLwLk733, qLwLk734, List.mem_cons, List.not_mem_nil, or_false] at ht
        rcases ht with rfl | rfl | rfl | rfl | rfl
        iterate 2 (exfalso; first | exact ab2 hpc 0 6 rfl rfl rfl | exact ab2 hpc 0 8 rfl rfl rfl | exact ab2 hpc 1 7 rfl rfl rfl | exact ab2 hpc 1 9 rfl rfl rfl | exact ab2 hpc 0 7 rfl rfl rfl | exact ab2 hpc 0 9 rfl rfl rfl)
        all_goals
          intro g hg
          dsimp only at hg ⊢
          simp only [pcDen_cons_iff, pcDen_nil_iff, SB.den, decide_eq_true_eq, decide_eq_false_iff_not, beq_iff_eq, beq_eq_false_iff_ne] at hpc
          simp only [SI.den, SG.den, gi10u hI2, gb11u hI2, q7, qn, qa, qg, q0, q2, q3, w64_64] at hpc
          have hle : x.i 0 ≤ ν.i 7 := by omega
          have em : (min (x.i 0) (ν.i 7)).toNat = (x.i 0).toNat := by omega
          rw [em] at j2
          generalize hy : Mt.vals _ (ghL []) ν2 = y
          have y0 : y.i 0 = x.i 0 + 1 := by rw [← hy]; simp only [Mt.vals, lkp_cons, lkp_nil, Nat.reduceEqDiff, reduceIte, SI.den, q0]
          refine nxLk73 hI hp' (by decide) hg j0 hle y0 ?_ (by constructor <;> simp)
        · rw [if_pos (by omega)]
          generalize it7 3 ν (ν.g 1).t (x.i 0).toNat = S at j2 ⊢
          obtain ⟨st, b, t, xx, wn, dn', cd, v⟩ := S
          obtain ⟨d1, ⟨e1, e2, e3⟩, ⟨r3, r4⟩, d8⟩ := JS73k3.1 j2
          dsimp only at *
          subst d1
          skip
          all_goals
            subst e1
            subst e2 e3
            have mk2 := mask_modK (x.i 3) (ν.i 1) F.pw r3.1 r3.2
            skip
            have hw := d8
            refine JS73k4.2 ?_
            simp only [← hy, Mt.vals, lkp_cons, lkp_nil, Nat.reduceEqDiff, reduceIte, SI.den, SG.den, gi10u hI2, gb11u hI2, qa, qn, qc, qg, q0, q2, q3, q4, q10, q11, q12, q13, mk2, IntKind.wrap_u64]
            generalize tolds (ν.g 1).t (x.i 0).toNat = T at hpc T0 ⊢
            obtain ⟨tv, tw⟩ := T
            dsimp only at hpc T0 ⊢
            cases tw <;> first
              | (exfalso; omega)
              | (exfalso; simp at hpc; done)
              | (simp [st7, p7, tk7, kI, A7.step, A7.fin, A7.ahead, wnt7]; done)
              | (simp [st7, p7, tk7, kI, A7.step, A7.fin, A7.ahead, wnt7] <;> omega)
              | (simp [st7, p7, tk7, kI, A7.step, A7.fin, A7.ahead, wnt7]; simp [wnt7, A7.ahead] at hw; omega)
        · rw [if_pos (by omega)]
          generalize it7 3 ν (ν.g 1).t (x.i 0).toNat = S at j2 ⊢
          obtain ⟨st, b, t, xx, wn, dn', cd, v⟩ := S
          obtain ⟨d1, ⟨e1, e2, e3⟩, ⟨r3, r4⟩, d8⟩ := JS73k3.1 j2
          dsimp only at *
          subst d1
          skip
          all_goals
            subst e1
            subst e2 e3
            have mk2 := mask_modK (x.i 3) (ν.i 1) F.pw r3.1 r3.2
            skip
            have hw := d8
            refine JS73k4.2 ?_
            simp only [← hy, Mt.vals, lkp_cons, lkp_nil, Nat.reduceEqDiff, reduceIte, SI.den, SG.den, gi10u hI2, gb11u hI2, qa, qn, qc, qg, q0, q2, q3, q4, q10, q11, q12, q13, mk2, IntKind.wrap_u64]
            generalize tolds (ν.g 1).t (x.i 0).toNat = T at hpc T0 ⊢
            obtain ⟨tv, tw⟩ := T
            dsimp only at hpc T0 ⊢
            cases tw <;> first
              | (exfalso; omega)
              | (exfalso; simp at hpc; done)
              | (simp [st7, p7, tk7, kI, A7.step, A7.fin, A7.ahead, wnt7]; done)
              | (simp [st7, p7, tk7, kI, A7.step, A7.fin, A7.ahead, wnt7] <;> omega)
              | (simp [st7, p7, tk7, kI, A7.step, A7.fin, A7.ahead, wnt7]; simp [wnt7, A7.ahead] at hw; omega)
        · rw [if_neg (by omega)]
          refine JS73k3.2 ?_
          simp only [← hy, Mt.vals, lkp_cons, lkp_nil, Nat.reduceEqDiff, reduceIte, SI.den, q2, q3, q4, q10, q11, q12, q13, q14, q15]
          exact JS73k3.1 j2
      · simp only [sLk73k3c1, qLwLk730, tLwLk731, qLwLk731, List.mem_cons, List.not_mem_nil, or_false] at ht
        subst ht
        exact ⟨fun g hg => by cases hg; exact pcDen_nil _, by constructor <;> simp⟩
    | 4, hh, hs =>
      cases hs
      simp only [List.mem_cons, List.not_mem_nil, or_false] at hc
      rcases hc with rfl | rfl
      · simp only [sLk73k4c0, qLwLk730, tLwLk731, qLwLk731, qLwLk732, qLwLk733, qLwLk734, qLwLk735, List.mem_cons, List.not_mem_nil, or_false] at ht
        rcases ht with rfl | rfl | rfl | rfl
        iterate 2 (exfalso; first | exact ab2 hpc 0 6 rfl rfl rfl | exact ab2 hpc 0 8 rfl rfl rfl | exact ab2 hpc 1 7 rfl rfl rfl | exact ab2 hpc 1 9 rfl rfl rfl | exact ab2 hpc 0 7 rfl rfl rfl | exact ab2 hpc 0 9 rfl rfl rfl)
        all_goals
          intro g hg
          dsimp only at hg ⊢
          simp only [pcDen_cons_iff, pcDen_nil_iff, SB.den, decide_eq_true_eq, decide_eq_false_iff_not, beq_iff_eq, beq_eq_false_iff_ne] at hpc
          simp only [SI.den, SG.den, gi10u hI2, gb11u hI2, q7, qn, qa, qg, q0, q2, q3, w64_64] at hpc
          have hle : x.i 0 ≤ ν.i 7 := by omega
          have em : (min (x.i 0) (ν.i 7)).toNat = (x.i 0).toNat := by omega
          rw [em] at j2
          generalize hy : Mt.vals _ (ghL []) ν2 = y
          have y0 : y.i 0 = x.i 0 + 1 := by rw [← hy]; simp only [Mt.vals, lkp_cons, lkp_nil, Nat.reduceEqDiff, reduceIte, SI.den, q0]
          refine nxLk73 hI hp' (by decide) hg j0 hle y0 ?_ (by constructor <;> simp)
        · rw [if_pos (by omega)]
          obtain ⟨d1, d2, d3⟩ := JS73k4.1 j2
          refine JS73k4.2 ?_
          simp only [← hy, Mt.vals, lkp_cons, lkp_nil, Nat.reduceEqDiff, reduceIte, SI.den, q14, q15]
          simp [st7, A7.step, d1, d2, d3]
        · rw [if_neg (by omega)]
          refine JS73k4.2 ?_
          simp only [← hy, Mt.vals, lkp_cons, lkp_nil, Nat.reduceEqDiff, reduceIte, SI.den, q2, q3, q4, q10, q11, q12, q13, q14, q15]
          exact JS73k4.1 j2
      · simp only [sLk73k4c1, qLwLk730, tLwLk731, qLwLk731, List.mem_cons, List.not_mem_nil, or_false] at ht
        subst ht
        exact ⟨fun g hg => by cases hg; exact pcDen_nil _, by constructor <;> simp⟩
    | m + 5, hh, hs => cases hs
end Go.Proofs.Ytlmenjenkpnacaa
end
