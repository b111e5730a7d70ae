/- Is an arena's walk like the document's, round by round. (Printed by lk6.py.) -/
import Derived.Test.YtlmenjenkpnacaaLwXA
import Derived.Test.YtlmenjenkpnacaaLwXV
import Derived.Test.YtlmenjenkpnacaaLwXL
set_option linter.unusedVariables false
set_option linter.unusedSimpArgs false

section
namespace Go.Proofs.Ytlmenjenkpnacaa
open Go Go.Sy Go.RowKit

def qLwLk6pn0 : SG := (.app 76 (.var 2) (.app 80 (.var 1) (.var 0) (.add (.var 7) (.lit 1)) (.lit 0) (.lit 0) (.lit 0) (.cons (.var 0) (.cons (.var 1) (.cons (.lit 1) (.cons (.var 3) (.cons (.lit 1) (.cons (.lit 0) (.cons (.lit 0) (.cons (.lit 0) (.cons (.lit 0) (.cons (.lit 0) .nil))))))))))) (.lit 0) (.lit 0) (.lit 0) (.lit 0) .nil)
def qLwLk6pn1 : SI := (.gi 17 (.app 78 (.var 2) (.var 0) (.lit 121) (.lit 10) (.var 2) (.lit 0) (.cons (.lit 3) (.cons (.lit 3) (.cons (.lit 7) (.cons (.lit 7) (.cons (.lit 8) (.cons (.lit 3) (.cons (.lit 7) (.cons (.lit 10) (.cons (.lit 8) (.cons (.lit 10) .nil))))))))))) (.lit 0) (.lit 0))
def qLwLk6pn2 : SG := (.app 2 (.app 1 (.var 0) (.var 0) (.lit 0) (.lit 0) (.lit 0) (.lit 0) .nil) (.app 1 (.var 0) (.var 0) (.lit 0) (.lit 0) (.lit 0) (.lit 0) (.gl 0 (.app 70 (.var 2) (.var 2) (.mul (.var (nLk + 0)) (.lit 10)) (.lit 9) (.lit 0) (.lit 0) .nil) (.lit 0) (.lit 0))) (.lit 0) (.lit 0) (.lit 0) (.lit 0) .nil)
def qLwLk6pn3 : SG := (.app 70 (.var 2) (.var 2) (.mul (.var (nLk + 0)) (.lit 10)) (.lit 4) (.lit 0) (.lit 0) .nil)
def qLwLk6pn4 : SG := (.app 70 (.var 2) (.var 2) (.mul (.var (nLk + 0)) (.lit 10)) (.lit 8) (.lit 0) (.lit 0) .nil)
def qLwLk6pn5 : SG := (.app 2 (.app 1 (.var 0) (.var 0) (.lit 0) (.lit 0) (.lit 0) (.lit 0) .nil) (.app 1 (.var 0) (.var 0) (.lit 0) (.lit 0) (.lit 0) (.lit 0) (.gl 0 (.app 70 (.var 2) (.var 2) (.mul (.var (nLk + 0)) (.lit 10)) (.lit 7) (.lit 0) (.lit 0) .nil) (.lit 0) (.lit 0))) (.lit 0) (.lit 0) (.lit 0) (.lit 0) .nil)
def pcLk6pn : PC := [((.gb 0 qLwLk6pn0 (.lit 0) (.lit 0)), true), ((.eq qLwLk6pn1 (.add (.var 7) (.lit 1))), true), ((.lt (.var 0) (.lit 0)), false), ((.lt (.var 0) (.sub (.lit 65536) (.var 1))), true), ((.lt (.var 1) (.lit 1)), false), ((.lt (.var 1) (.lit 4097)), true), ((.lt (.var 3) (.lit 1)), false), ((.lt (.var 1) (.var 3)), false), ((.lt (.var 7) (.lit 0)), false), ((.lt (.lit 200) (.var 7)), false), ((.lt (.var 8) (.lit 0)), false), ((.gb 0 (.app 83 (.var 1) (.var 0) (.lit 0) (.lit 0) (.lit 0) (.lit 0) .nil) (.lit 0) (.lit 0)), true)]
def stLk6pn : Mt := ⟨[], [(2, (.lit 0)), (13, (.lit 0)), (12, (.lit 0)), (11, (.var 0)), (10, (.lit 1)), (0, (.lit 0))], [], [], [], [], [], []⟩
def sLk6pn00 : List SumT := [
  ⟨.ret, 1, ⟨[], [], [], [], [], [], [], []⟩, [((.gb 0 qLwLk6pn3 (.lit 0) (.lit 0)), false), ((.lt (.var 7) (.var (nLk + 0))), false), ((.eq (.var (nLk + 10)) (.gi 15 (.var 2) (.mul (.var (nLk + 0)) (.lit 10)) (.lit 0))), true), ((.eq (.var (nLk + 11)) (.gi 15 (.var 2) (.mul (.var (nLk + 0)) (.lit 10)) (.lit 1))), true), ((.eq (.var (nLk + 12)) (.gi 15 (.var 2) (.mul (.var (nLk + 0)) (.lit 10)) (.lit 2))), true), ((.eq (.var (nLk + 13)) (.gi 15 (.var 2) (.mul (.var (nLk + 0)) (.lit 10)) (.lit 3))), true), ((.same (.lit true) (.gb 0 qLwLk6pn3 (.lit 0) (.lit 0))), true), ((.same (.lit false) (.gb 0 qLwLk6pn4 (.lit 0) (.lit 0))), true), ((.gb 0 qLwLk6pn2 (.lit 0) (.lit 0)), true), ((.lt (.var (nLk + 0)) (.lit 0)), false), ((.lt (.add (.var 7) (.lit 1)) (.var (nLk + 0))), false), ((.lt (.var (nLk + 2)) (.lit 0)), false), ((.lt (.var (nLk + 2)) (.lit 18446744073709551616)), true), ((.gb 0 qLwLk6pn0 (.lit 0) (.lit 0)), true), ((.eq qLwLk6pn1 (.add (.var 7) (.lit 1))), true), ((.lt (.var 0) (.lit 0)), false), ((.lt (.var 0) (.sub (.lit 65536) (.var 1))), true), ((.lt (.var 1) (.lit 1)), false), ((.lt (.var 1) (.lit 4097)), true), ((.lt (.var 3) (.lit 1)), false), ((.lt (.var 1) (.var 3)), false), ((.lt (.var 7) (.lit 0)), false), ((.lt (.lit 200) (.var 7)), false), ((.lt (.var 8) (.lit 0)), false), ((.gb 0 (.app 83 (.var 1) (.var 0) (.lit 0) (.lit 0) (.lit 0) (.lit 0) .nil) (.lit 0) (.lit 0)), true)]⟩,
  ⟨.ret, 1, ⟨[], [], [], [], [], [], [], []⟩, [((.gb 0 qLwLk6pn4 (.lit 0) (.lit 0)), true), ((.gb 0 qLwLk6pn3 (.lit 0) (.lit 0)), true), ((.lt (.var 7) (.var (nLk + 0))), false), ((.eq (.var (nLk + 10)) (.gi 15 (.var 2) (.mul (.var (nLk + 0)) (.lit 10)) (.lit 0))), true), ((.eq (.var (nLk + 11)) (.gi 15 (.var 2) (.mul (.var (nLk + 0)) (.lit 10)) (.lit 1))), true), ((.eq (.var (nLk + 12)) (.gi 15 (.var 2) (.mul (.var (nLk + 0)) (.lit 10)) (.lit 2))), true), ((.eq (.var (nLk + 13)) (.gi 15 (.var 2) (.mul (.var (nLk + 0)) (.lit 10)) (.lit 3))), true), ((.same (.lit true) (.gb 0 qLwLk6pn3 (.lit 0) (.lit 0))), true), ((.same (.lit false) (.gb 0 qLwLk6pn4 (.lit 0) (.lit 0))), true), ((.gb 0 qLwLk6pn2 (.lit 0) (.lit 0)), true), ((.lt (.var (nLk + 0)) (.lit 0)), false), ((.lt (.add (.var 7) (.lit 1)) (.var (nLk + 0))), false), ((.lt (.var (nLk + 2)) (.lit 0)), false), ((.lt (.var (nLk + 2)) (.lit 18446744073709551616)), true), ((.gb 0 qLwLk6pn0 (.lit 0) (.lit 0)), true), ((.eq qLwLk6pn1 (.add (.var 7) (.lit 1))), true), ((.lt (.var 0) (.lit 0)), false), ((.lt (.var 0) (.sub (.lit 65536) (.var 1))), true), ((.lt (.var 1) (.lit 1)), false), ((.lt (.var 1) (.lit 4097)), true), ((.lt (.var 3) (.lit 1)), false), ((.lt (.var 1) (.var 3)), false), ((.lt (.var 7) (.lit 0)), false), ((.lt (.lit 200) (.var 7)), false), ((.lt (.var 8) (.lit 0)), false), ((.gb 0 (.app 83 (.var 1) (.var 0) (.lit 0) (.lit 0) (.lit 0) (.lit 0) .nil) (.lit 0) (.lit 0)), true)]⟩,
  ⟨.normal, 1, ⟨[], [(2, (.gi 10 (.var 1) (.var (nLk + 0)) (.lit 0))), (13, (.lit 0)), (12, (.wrap .u32 (.gi 10 (.var 1) (.var (nLk + 0)) (.lit 0)))), (11, (.wrap .i64 (.add (.var 0) (.var 3)))), (10, (.lit 2)), (0, (.add (.var (nLk + 0)) (.lit 1)))], [], [], [], [], [], []⟩, [((.lt (.var (nLk + 0)) (.var 7)), true), ((.gb 0 qLwLk6pn4 (.lit 0) (.lit 0)), false), ((.gb 0 qLwLk6pn3 (.lit 0) (.lit 0)), true), ((.lt (.var 7) (.var (nLk + 0))), false), ((.eq (.var (nLk + 10)) (.gi 15 (.var 2) (.mul (.var (nLk + 0)) (.lit 10)) (.lit 0))), true), ((.eq (.var (nLk + 11)) (.gi 15 (.var 2) (.mul (.var (nLk + 0)) (.lit 10)) (.lit 1))), true), ((.eq (.var (nLk + 12)) (.gi 15 (.var 2) (.mul (.var (nLk + 0)) (.lit 10)) (.lit 2))), true), ((.eq (.var (nLk + 13)) (.gi 15 (.var 2) (.mul (.var (nLk + 0)) (.lit 10)) (.lit 3))), true), ((.same (.lit true) (.gb 0 qLwLk6pn3 (.lit 0) (.lit 0))), true), ((.same (.lit false) (.gb 0 qLwLk6pn4 (.lit 0) (.lit 0))), true), ((.gb 0 qLwLk6pn2 (.lit 0) (.lit 0)), true), ((.lt (.var (nLk + 0)) (.lit 0)), false), ((.lt (.add (.var 7) (.lit 1)) (.var (nLk + 0))), false), ((.lt (.var (nLk + 2)) (.lit 0)), false), ((.lt (.var (nLk + 2)) (.lit 18446744073709551616)), true), ((.gb 0 qLwLk6pn0 (.lit 0) (.lit 0)), true), ((.eq qLwLk6pn1 (.add (.var 7) (.lit 1))), true), ((.lt (.var 0) (.lit 0)), false), ((.lt (.var 0) (.sub (.lit 65536) (.var 1))), true), ((.lt (.var 1) (.lit 1)), false), ((.lt (.var 1) (.lit 4097)), true), ((.lt (.var 3) (.lit 1)), false), ((.lt (.var 1) (.var 3)), false), ((.lt (.var 7) (.lit 0)), false), ((.lt (.lit 200) (.var 7)), false), ((.lt (.var 8) (.lit 0)), false), ((.gb 0 (.app 83 (.var 1) (.var 0) (.lit 0) (.lit 0) (.lit 0) (.lit 0) .nil) (.lit 0) (.lit 0)), true)]⟩,
  ⟨.normal, 0, ⟨[], [(2, (.var (nLk + 2))), (13, (.var (nLk + 13))), (12, (.var (nLk + 12))), (11, (.var (nLk + 11))), (10, (.var (nLk + 10))), (0, (.add (.var (nLk + 0)) (.lit 1)))], [], [], [], [], [], []⟩, [((.lt (.var (nLk + 0)) (.var 7)), false), ((.gb 0 qLwLk6pn4 (.lit 0) (.lit 0)), false), ((.gb 0 qLwLk6pn3 (.lit 0) (.lit 0)), true), ((.lt (.var 7) (.var (nLk + 0))), false), ((.eq (.var (nLk + 10)) (.gi 15 (.var 2) (.mul (.var (nLk + 0)) (.lit 10)) (.lit 0))), true), ((.eq (.var (nLk + 11)) (.gi 15 (.var 2) (.mul (.var (nLk + 0)) (.lit 10)) (.lit 1))), true), ((.eq (.var (nLk + 12)) (.gi 15 (.var 2) (.mul (.var (nLk + 0)) (.lit 10)) (.lit 2))), true), ((.eq (.var (nLk + 13)) (.gi 15 (.var 2) (.mul (.var (nLk + 0)) (.lit 10)) (.lit 3))), true), ((.same (.lit true) (.gb 0 qLwLk6pn3 (.lit 0) (.lit 0))), true), ((.same (.lit false) (.gb 0 qLwLk6pn4 (.lit 0) (.lit 0))), true), ((.gb 0 qLwLk6pn2 (.lit 0) (.lit 0)), true), ((.lt (.var (nLk + 0)) (.lit 0)), false), ((.lt (.add (.var 7) (.lit 1)) (.var (nLk + 0))), false), ((.lt (.var (nLk + 2)) (.lit 0)), false), ((.lt (.var (nLk + 2)) (.lit 18446744073709551616)), true), ((.gb 0 qLwLk6pn0 (.lit 0) (.lit 0)), true), ((.eq qLwLk6pn1 (.add (.var 7) (.lit 1))), true), ((.lt (.var 0) (.lit 0)), false), ((.lt (.var 0) (.sub (.lit 65536) (.var 1))), true), ((.lt (.var 1) (.lit 1)), false), ((.lt (.var 1) (.lit 4097)), true), ((.lt (.var 3) (.lit 1)), false), ((.lt (.var 1) (.var 3)), false), ((.lt (.var 7) (.lit 0)), false), ((.lt (.lit 200) (.var 7)), false), ((.lt (.var 8) (.lit 0)), false), ((.gb 0 (.app 83 (.var 1) (.var 0) (.lit 0) (.lit 0) (.lit 0) (.lit 0) .nil) (.lit 0) (.lit 0)), true)]⟩]
def sLk6pn01 : List SumT := [
  ⟨.exit 0, 0, ⟨[], [], [], [], [], [], [], []⟩, [((.lt (.var 7) (.var (nLk + 0))), true), ((.lt (.var (nLk + 0)) (.lit 0)), false), ((.lt (.add (.var 7) (.lit 1)) (.var (nLk + 0))), false), ((.lt (.var (nLk + 2)) (.lit 0)), false), ((.lt (.var (nLk + 2)) (.lit 18446744073709551616)), true), ((.gb 0 qLwLk6pn0 (.lit 0) (.lit 0)), true), ((.eq qLwLk6pn1 (.add (.var 7) (.lit 1))), true), ((.lt (.var 0) (.lit 0)), false), ((.lt (.var 0) (.sub (.lit 65536) (.var 1))), true), ((.lt (.var 1) (.lit 1)), false), ((.lt (.var 1) (.lit 4097)), true), ((.lt (.var 3) (.lit 1)), false), ((.lt (.var 1) (.var 3)), false), ((.lt (.var 7) (.lit 0)), false), ((.lt (.lit 200) (.var 7)), false), ((.lt (.var 8) (.lit 0)), false), ((.gb 0 (.app 83 (.var 1) (.var 0) (.lit 0) (.lit 0) (.lit 0) (.lit 0) .nil) (.lit 0) (.lit 0)), true)]⟩]
def sLk6pn10 : List SumT := [
  ⟨.ret, 1, ⟨[], [], [], [], [], [], [], []⟩, [((.gb 0 qLwLk6pn3 (.lit 0) (.lit 0)), false), ((.lt (.var 7) (.var (nLk + 0))), false), ((.eq (.var (nLk + 10)) (.gi 15 (.var 2) (.mul (.var (nLk + 0)) (.lit 10)) (.lit 0))), true), ((.eq (.var (nLk + 11)) (.gi 15 (.var 2) (.mul (.var (nLk + 0)) (.lit 10)) (.lit 1))), true), ((.eq (.var (nLk + 12)) (.gi 15 (.var 2) (.mul (.var (nLk + 0)) (.lit 10)) (.lit 2))), true), ((.eq (.var (nLk + 13)) (.gi 15 (.var 2) (.mul (.var (nLk + 0)) (.lit 10)) (.lit 3))), true), ((.same (.lit true) (.gb 0 qLwLk6pn3 (.lit 0) (.lit 0))), true), ((.same (.lit false) (.gb 0 qLwLk6pn4 (.lit 0) (.lit 0))), true), ((.gb 0 qLwLk6pn2 (.lit 0) (.lit 0)), true), ((.lt (.var (nLk + 0)) (.lit 0)), false), ((.lt (.add (.var 7) (.lit 1)) (.var (nLk + 0))), false), ((.lt (.var (nLk + 2)) (.lit 0)), false), ((.lt (.var (nLk + 2)) (.lit 18446744073709551616)), true), ((.gb 0 qLwLk6pn0 (.lit 0) (.lit 0)), true), ((.eq qLwLk6pn1 (.add (.var 7) (.lit 1))), true), ((.lt (.var 0) (.lit 0)), false), ((.lt (.var 0) (.sub (.lit 65536) (.var 1))), true), ((.lt (.var 1) (.lit 1)), false), ((.lt (.var 1) (.lit 4097)), true), ((.lt (.var 3) (.lit 1)), false), ((.lt (.var 1) (.var 3)), false), ((.lt (.var 7) (.lit 0)), false), ((.lt (.lit 200) (.var 7)), false), ((.lt (.var 8) (.lit 0)), false), ((.gb 0 (.app 83 (.var 1) (.var 0) (.lit 0) (.lit 0) (.lit 0) (.lit 0) .nil) (.lit 0) (.lit 0)), true)]⟩,
  ⟨.ret, 1, ⟨[], [], [], [], [], [], [], []⟩, [((.gb 0 qLwLk6pn4 (.lit 0) (.lit 0)), true), ((.gb 0 qLwLk6pn3 (.lit 0) (.lit 0)), true), ((.lt (.var 7) (.var (nLk + 0))), false), ((.eq (.var (nLk + 10)) (.gi 15 (.var 2) (.mul (.var (nLk + 0)) (.lit 10)) (.lit 0))), true), ((.eq (.var (nLk + 11)) (.gi 15 (.var 2) (.mul (.var (nLk + 0)) (.lit 10)) (.lit 1))), true), ((.eq (.var (nLk + 12)) (.gi 15 (.var 2) (.mul (.var (nLk + 0)) (.lit 10)) (.lit 2))), true), ((.eq (.var (nLk + 13)) (.gi 15 (.var 2) (.mul (.var (nLk + 0)) (.lit 10)) (.lit 3))), true), ((.same (.lit true) (.gb 0 qLwLk6pn3 (.lit 0) (.lit 0))), true), ((.same (.lit false) (.gb 0 qLwLk6pn4 (.lit 0) (.lit 0))), true), ((.gb 0 qLwLk6pn2 (.lit 0) (.lit 0)), true), ((.lt (.var (nLk + 0)) (.lit 0)), false), ((.lt (.add (.var 7) (.lit 1)) (.var (nLk + 0))), false), ((.lt (.var (nLk + 2)) (.lit 0)), false), ((.lt (.var (nLk + 2)) (.lit 18446744073709551616)), true), ((.gb 0 qLwLk6pn0 (.lit 0) (.lit 0)), true), ((.eq qLwLk6pn1 (.add (.var 7) (.lit 1))), true), ((.lt (.var 0) (.lit 0)), false), ((.lt (.var 0) (.sub (.lit 65536) (.var 1))), true), ((.lt (.var 1) (.lit 1)), false), ((.lt (.var 1) (.lit 4097)), true), ((.lt (.var 3) (.lit 1)), false), ((.lt (.var 1) (.var 3)), false), ((.lt (.var 7) (.lit 0)), false), ((.lt (.lit 200) (.var 7)), false), ((.lt (.var 8) (.lit 0)), false), ((.gb 0 (.app 83 (.var 1) (.var 0) (.lit 0) (.lit 0) (.lit 0) (.lit 0) .nil) (.lit 0) (.lit 0)), true)]⟩,
  ⟨.normal, 2, ⟨[], [(2, (.var (nLk + 2))), (13, (.bits 1 .u64 (.wrap .u64 (.mul (.wrap .u32 (.add (.wrap .u32 (.fdiv (.var (nLk + 2)) (.lit 4294967296))) (.lit 1))) (.lit 4294967296))) (.wrap .u32 (.var 3)))), (12, (.var (nLk + 2))), (11, (.var 0)), (10, (.lit 3)), (0, (.add (.var (nLk + 0)) (.lit 1)))], [], [], [], [], [], []⟩, [((.lt (.var (nLk + 0)) (.var 7)), true), ((.gb 0 qLwLk6pn4 (.lit 0) (.lit 0)), false), ((.gb 0 qLwLk6pn3 (.lit 0) (.lit 0)), true), ((.lt (.var 7) (.var (nLk + 0))), false), ((.eq (.var (nLk + 10)) (.gi 15 (.var 2) (.mul (.var (nLk + 0)) (.lit 10)) (.lit 0))), true), ((.eq (.var (nLk + 11)) (.gi 15 (.var 2) (.mul (.var (nLk + 0)) (.lit 10)) (.lit 1))), true), ((.eq (.var (nLk + 12)) (.gi 15 (.var 2) (.mul (.var (nLk + 0)) (.lit 10)) (.lit 2))), true), ((.eq (.var (nLk + 13)) (.gi 15 (.var 2) (.mul (.var (nLk + 0)) (.lit 10)) (.lit 3))), true), ((.same (.lit true) (.gb 0 qLwLk6pn3 (.lit 0) (.lit 0))), true), ((.same (.lit false) (.gb 0 qLwLk6pn4 (.lit 0) (.lit 0))), true), ((.gb 0 qLwLk6pn2 (.lit 0) (.lit 0)), true), ((.lt (.var (nLk + 0)) (.lit 0)), false), ((.lt (.add (.var 7) (.lit 1)) (.var (nLk + 0))), false), ((.lt (.var (nLk + 2)) (.lit 0)), false), ((.lt (.var (nLk + 2)) (.lit 18446744073709551616)), true), ((.gb 0 qLwLk6pn0 (.lit 0) (.lit 0)), true), ((.eq qLwLk6pn1 (.add (.var 7) (.lit 1))), true), ((.lt (.var 0) (.lit 0)), false), ((.lt (.var 0) (.sub (.lit 65536) (.var 1))), true), ((.lt (.var 1) (.lit 1)), false), ((.lt (.var 1) (.lit 4097)), true), ((.lt (.var 3) (.lit 1)), false), ((.lt (.var 1) (.var 3)), false), ((.lt (.var 7) (.lit 0)), false), ((.lt (.lit 200) (.var 7)), false), ((.lt (.var 8) (.lit 0)), false), ((.gb 0 (.app 83 (.var 1) (.var 0) (.lit 0) (.lit 0) (.lit 0) (.lit 0) .nil) (.lit 0) (.lit 0)), true)]⟩,
  ⟨.normal, 1, ⟨[], [(2, (.var (nLk + 2))), (13, (.var (nLk + 13))), (12, (.var (nLk + 12))), (11, (.var (nLk + 11))), (10, (.var (nLk + 10))), (0, (.add (.var (nLk + 0)) (.lit 1)))], [], [], [], [], [], []⟩, [((.lt (.var (nLk + 0)) (.var 7)), false), ((.gb 0 qLwLk6pn4 (.lit 0) (.lit 0)), false), ((.gb 0 qLwLk6pn3 (.lit 0) (.lit 0)), true), ((.lt (.var 7) (.var (nLk + 0))), false), ((.eq (.var (nLk + 10)) (.gi 15 (.var 2) (.mul (.var (nLk + 0)) (.lit 10)) (.lit 0))), true), ((.eq (.var (nLk + 11)) (.gi 15 (.var 2) (.mul (.var (nLk + 0)) (.lit 10)) (.lit 1))), true), ((.eq (.var (nLk + 12)) (.gi 15 (.var 2) (.mul (.var (nLk + 0)) (.lit 10)) (.lit 2))), true), ((.eq (.var (nLk + 13)) (.gi 15 (.var 2) (.mul (.var (nLk + 0)) (.lit 10)) (.lit 3))), true), ((.same (.lit true) (.gb 0 qLwLk6pn3 (.lit 0) (.lit 0))), true), ((.same (.lit false) (.gb 0 qLwLk6pn4 (.lit 0) (.lit 0))), true), ((.gb 0 qLwLk6pn2 (.lit 0) (.lit 0)), true), ((.lt (.var (nLk + 0)) (.lit 0)), false), ((.lt (.add (.var 7) (.lit 1)) (.var (nLk + 0))), false), ((.lt (.var (nLk + 2)) (.lit 0)), false), ((.lt (.var (nLk + 2)) (.lit 18446744073709551616)), true), ((.gb 0 qLwLk6pn0 (.lit 0) (.lit 0)), true), ((.eq qLwLk6pn1 (.add (.var 7) (.lit 1))), true), ((.lt (.var 0) (.lit 0)), false), ((.lt (.var 0) (.sub (.lit 65536) (.var 1))), true), ((.lt (.var 1) (.lit 1)), false), ((.lt (.var 1) (.lit 4097)), true), ((.lt (.var 3) (.lit 1)), false), ((.lt (.var 1) (.var 3)), false), ((.lt (.var 7) (.lit 0)), false), ((.lt (.lit 200) (.var 7)), false), ((.lt (.var 8) (.lit 0)), false), ((.gb 0 (.app 83 (.var 1) (.var 0) (.lit 0) (.lit 0) (.lit 0) (.lit 0) .nil) (.lit 0) (.lit 0)), true)]⟩]
def sLk6pn11 : List SumT := [
  ⟨.exit 0, 0, ⟨[], [], [], [], [], [], [], []⟩, [((.lt (.var 7) (.var (nLk + 0))), true), ((.lt (.var (nLk + 0)) (.lit 0)), false), ((.lt (.add (.var 7) (.lit 1)) (.var (nLk + 0))), false), ((.lt (.var (nLk + 2)) (.lit 0)), false), ((.lt (.var (nLk + 2)) (.lit 18446744073709551616)), true), ((.gb 0 qLwLk6pn0 (.lit 0) (.lit 0)), true), ((.eq qLwLk6pn1 (.add (.var 7) (.lit 1))), true), ((.lt (.var 0) (.lit 0)), false), ((.lt (.var 0) (.sub (.lit 65536) (.var 1))), true), ((.lt (.var 1) (.lit 1)), false), ((.lt (.var 1) (.lit 4097)), true), ((.lt (.var 3) (.lit 1)), false), ((.lt (.var 1) (.var 3)), false), ((.lt (.var 7) (.lit 0)), false), ((.lt (.lit 200) (.var 7)), false), ((.lt (.var 8) (.lit 0)), false), ((.gb 0 (.app 83 (.var 1) (.var 0) (.lit 0) (.lit 0) (.lit 0) (.lit 0) .nil) (.lit 0) (.lit 0)), true)]⟩]
def sLk6pn20 : List SumT := [
  ⟨.ret, 1, ⟨[], [], [], [], [], [], [], []⟩, [((.gb 0 qLwLk6pn3 (.lit 0) (.lit 0)), false), ((.lt (.var 7) (.var (nLk + 0))), false), ((.eq (.var (nLk + 10)) (.gi 15 (.var 2) (.mul (.var (nLk + 0)) (.lit 10)) (.lit 0))), true), ((.eq (.var (nLk + 11)) (.gi 15 (.var 2) (.mul (.var (nLk + 0)) (.lit 10)) (.lit 1))), true), ((.eq (.var (nLk + 12)) (.gi 15 (.var 2) (.mul (.var (nLk + 0)) (.lit 10)) (.lit 2))), true), ((.eq (.var (nLk + 13)) (.gi 15 (.var 2) (.mul (.var (nLk + 0)) (.lit 10)) (.lit 3))), true), ((.same (.lit true) (.gb 0 qLwLk6pn3 (.lit 0) (.lit 0))), true), ((.same (.lit false) (.gb 0 qLwLk6pn4 (.lit 0) (.lit 0))), true), ((.gb 0 qLwLk6pn2 (.lit 0) (.lit 0)), true), ((.lt (.var (nLk + 0)) (.lit 0)), false), ((.lt (.add (.var 7) (.lit 1)) (.var (nLk + 0))), false), ((.lt (.var (nLk + 2)) (.lit 0)), false), ((.lt (.var (nLk + 2)) (.lit 18446744073709551616)), true), ((.gb 0 qLwLk6pn0 (.lit 0) (.lit 0)), true), ((.eq qLwLk6pn1 (.add (.var 7) (.lit 1))), true), ((.lt (.var 0) (.lit 0)), false), ((.lt (.var 0) (.sub (.lit 65536) (.var 1))), true), ((.lt (.var 1) (.lit 1)), false), ((.lt (.var 1) (.lit 4097)), true), ((.lt (.var 3) (.lit 1)), false), ((.lt (.var 1) (.var 3)), false), ((.lt (.var 7) (.lit 0)), false), ((.lt (.lit 200) (.var 7)), false), ((.lt (.var 8) (.lit 0)), false), ((.gb 0 (.app 83 (.var 1) (.var 0) (.lit 0) (.lit 0) (.lit 0) (.lit 0) .nil) (.lit 0) (.lit 0)), true)]⟩,
  ⟨.ret, 1, ⟨[], [], [], [], [], [], [], []⟩, [((.gb 0 qLwLk6pn4 (.lit 0) (.lit 0)), true), ((.gb 0 qLwLk6pn3 (.lit 0) (.lit 0)), true), ((.lt (.var 7) (.var (nLk + 0))), false), ((.eq (.var (nLk + 10)) (.gi 15 (.var 2) (.mul (.var (nLk + 0)) (.lit 10)) (.lit 0))), true), ((.eq (.var (nLk + 11)) (.gi 15 (.var 2) (.mul (.var (nLk + 0)) (.lit 10)) (.lit 1))), true), ((.eq (.var (nLk + 12)) (.gi 15 (.var 2) (.mul (.var (nLk + 0)) (.lit 10)) (.lit 2))), true), ((.eq (.var (nLk + 13)) (.gi 15 (.var 2) (.mul (.var (nLk + 0)) (.lit 10)) (.lit 3))), true), ((.same (.lit true) (.gb 0 qLwLk6pn3 (.lit 0) (.lit 0))), true), ((.same (.lit false) (.gb 0 qLwLk6pn4 (.lit 0) (.lit 0))), true), ((.gb 0 qLwLk6pn2 (.lit 0) (.lit 0)), true), ((.lt (.var (nLk + 0)) (.lit 0)), false), ((.lt (.add (.var 7) (.lit 1)) (.var (nLk + 0))), false), ((.lt (.var (nLk + 2)) (.lit 0)), false), ((.lt (.var (nLk + 2)) (.lit 18446744073709551616)), true), ((.gb 0 qLwLk6pn0 (.lit 0) (.lit 0)), true), ((.eq qLwLk6pn1 (.add (.var 7) (.lit 1))), true), ((.lt (.var 0) (.lit 0)), false), ((.lt (.var 0) (.sub (.lit 65536) (.var 1))), true), ((.lt (.var 1) (.lit 1)), false), ((.lt (.var 1) (.lit 4097)), true), ((.lt (.var 3) (.lit 1)), false), ((.lt (.var 1) (.var 3)), false), ((.lt (.var 7) (.lit 0)), false), ((.lt (.lit 200) (.var 7)), false), ((.lt (.var 8) (.lit 0)), false), ((.gb 0 (.app 83 (.var 1) (.var 0) (.lit 0) (.lit 0) (.lit 0) (.lit 0) .nil) (.lit 0) (.lit 0)), true)]⟩,
  ⟨.normal, 1, ⟨[], [(2, (.gi 10 (.var 1) (.var (nLk + 0)) (.lit 0))), (13, (.lit 0)), (12, (.wrap .u32 (.gi 10 (.var 1) (.var (nLk + 0)) (.lit 0)))), (11, (.wrap .i64 (.add (.var 0) (.var 3)))), (10, (.lit 2)), (0, (.add (.var (nLk + 0)) (.lit 1)))], [], [], [], [], [], []⟩, [((.gb 11 (.var 1) (.var (nLk + 0)) (.lit 0)), false), ((.lt (.var (nLk + 0)) (.var 7)), true), ((.gb 0 qLwLk6pn4 (.lit 0) (.lit 0)), false), ((.gb 0 qLwLk6pn3 (.lit 0) (.lit 0)), true), ((.lt (.var 7) (.var (nLk + 0))), false), ((.eq (.var (nLk + 10)) (.gi 15 (.var 2) (.mul (.var (nLk + 0)) (.lit 10)) (.lit 0))), true), ((.eq (.var (nLk + 11)) (.gi 15 (.var 2) (.mul (.var (nLk + 0)) (.lit 10)) (.lit 1))), true), ((.eq (.var (nLk + 12)) (.gi 15 (.var 2) (.mul (.var (nLk + 0)) (.lit 10)) (.lit 2))), true), ((.eq (.var (nLk + 13)) (.gi 15 (.var 2) (.mul (.var (nLk + 0)) (.lit 10)) (.lit 3))), true), ((.same (.lit true) (.gb 0 qLwLk6pn3 (.lit 0) (.lit 0))), true), ((.same (.lit false) (.gb 0 qLwLk6pn4 (.lit 0) (.lit 0))), true), ((.gb 0 qLwLk6pn2 (.lit 0) (.lit 0)), true), ((.lt (.var (nLk + 0)) (.lit 0)), false), ((.lt (.add (.var 7) (.lit 1)) (.var (nLk + 0))), false), ((.lt (.var (nLk + 2)) (.lit 0)), false), ((.lt (.var (nLk + 2)) (.lit 18446744073709551616)), true), ((.gb 0 qLwLk6pn0 (.lit 0) (.lit 0)), true), ((.eq qLwLk6pn1 (.add (.var 7) (.lit 1))), true), ((.lt (.var 0) (.lit 0)), false), ((.lt (.var 0) (.sub (.lit 65536) (.var 1))), true), ((.lt (.var 1) (.lit 1)), false), ((.lt (.var 1) (.lit 4097)), true), ((.lt (.var 3) (.lit 1)), false), ((.lt (.var 1) (.var 3)), false), ((.lt (.var 7) (.lit 0)), false), ((.lt (.lit 200) (.var 7)), false), ((.lt (.var 8) (.lit 0)), false), ((.gb 0 (.app 83 (.var 1) (.var 0) (.lit 0) (.lit 0) (.lit 0) (.lit 0) .nil) (.lit 0) (.lit 0)), true)]⟩,
  ⟨.normal, 3, ⟨[], [(15, (.lit 0)), (14, (.lit 0)), (13, (.var (nLk + 13))), (12, (.var (nLk + 12))), (11, (.var (nLk + 11))), (10, (.var (nLk + 10))), (0, (.add (.var (nLk + 0)) (.lit 1)))], [], [], [], [], [], []⟩, [((.gb 11 (.var 1) (.var (nLk + 0)) (.lit 0)), true), ((.lt (.var (nLk + 0)) (.var 7)), true), ((.gb 0 qLwLk6pn4 (.lit 0) (.lit 0)), false), ((.gb 0 qLwLk6pn3 (.lit 0) (.lit 0)), true), ((.lt (.var 7) (.var (nLk + 0))), false), ((.eq (.var (nLk + 10)) (.gi 15 (.var 2) (.mul (.var (nLk + 0)) (.lit 10)) (.lit 0))), true), ((.eq (.var (nLk + 11)) (.gi 15 (.var 2) (.mul (.var (nLk + 0)) (.lit 10)) (.lit 1))), true), ((.eq (.var (nLk + 12)) (.gi 15 (.var 2) (.mul (.var (nLk + 0)) (.lit 10)) (.lit 2))), true), ((.eq (.var (nLk + 13)) (.gi 15 (.var 2) (.mul (.var (nLk + 0)) (.lit 10)) (.lit 3))), true), ((.same (.lit true) (.gb 0 qLwLk6pn3 (.lit 0) (.lit 0))), true), ((.same (.lit false) (.gb 0 qLwLk6pn4 (.lit 0) (.lit 0))), true), ((.gb 0 qLwLk6pn2 (.lit 0) (.lit 0)), true), ((.lt (.var (nLk + 0)) (.lit 0)), false), ((.lt (.add (.var 7) (.lit 1)) (.var (nLk + 0))), false), ((.lt (.var (nLk + 2)) (.lit 0)), false), ((.lt (.var (nLk + 2)) (.lit 18446744073709551616)), true), ((.gb 0 qLwLk6pn0 (.lit 0) (.lit 0)), true), ((.eq qLwLk6pn1 (.add (.var 7) (.lit 1))), true), ((.lt (.var 0) (.lit 0)), false), ((.lt (.var 0) (.sub (.lit 65536) (.var 1))), true), ((.lt (.var 1) (.lit 1)), false), ((.lt (.var 1) (.lit 4097)), true), ((.lt (.var 3) (.lit 1)), false), ((.lt (.var 1) (.var 3)), false), ((.lt (.var 7) (.lit 0)), false), ((.lt (.lit 200) (.var 7)), false), ((.lt (.var 8) (.lit 0)), false), ((.gb 0 (.app 83 (.var 1) (.var 0) (.lit 0) (.lit 0) (.lit 0) (.lit 0) .nil) (.lit 0) (.lit 0)), true)]⟩,
  ⟨.normal, 2, ⟨[], [(2, (.var (nLk + 2))), (13, (.var (nLk + 13))), (12, (.var (nLk + 12))), (11, (.var (nLk + 11))), (10, (.var (nLk + 10))), (0, (.add (.var (nLk + 0)) (.lit 1)))], [], [], [], [], [], []⟩, [((.lt (.var (nLk + 0)) (.var 7)), false), ((.gb 0 qLwLk6pn4 (.lit 0) (.lit 0)), false), ((.gb 0 qLwLk6pn3 (.lit 0) (.lit 0)), true), ((.lt (.var 7) (.var (nLk + 0))), false), ((.eq (.var (nLk + 10)) (.gi 15 (.var 2) (.mul (.var (nLk + 0)) (.lit 10)) (.lit 0))), true), ((.eq (.var (nLk + 11)) (.gi 15 (.var 2) (.mul (.var (nLk + 0)) (.lit 10)) (.lit 1))), true), ((.eq (.var (nLk + 12)) (.gi 15 (.var 2) (.mul (.var (nLk + 0)) (.lit 10)) (.lit 2))), true), ((.eq (.var (nLk + 13)) (.gi 15 (.var 2) (.mul (.var (nLk + 0)) (.lit 10)) (.lit 3))), true), ((.same (.lit true) (.gb 0 qLwLk6pn3 (.lit 0) (.lit 0))), true), ((.same (.lit false) (.gb 0 qLwLk6pn4 (.lit 0) (.lit 0))), true), ((.gb 0 qLwLk6pn2 (.lit 0) (.lit 0)), true), ((.lt (.var (nLk + 0)) (.lit 0)), false), ((.lt (.add (.var 7) (.lit 1)) (.var (nLk + 0))), false), ((.lt (.var (nLk + 2)) (.lit 0)), false), ((.lt (.var (nLk + 2)) (.lit 18446744073709551616)), true), ((.gb 0 qLwLk6pn0 (.lit 0) (.lit 0)), true), ((.eq qLwLk6pn1 (.add (.var 7) (.lit 1))), true), ((.lt (.var 0) (.lit 0)), false), ((.lt (.var 0) (.sub (.lit 65536) (.var 1))), true), ((.lt (.var 1) (.lit 1)), false), ((.lt (.var 1) (.lit 4097)), true), ((.lt (.var 3) (.lit 1)), false), ((.lt (.var 1) (.var 3)), false), ((.lt (.var 7) (.lit 0)), false), ((.lt (.lit 200) (.var 7)), false), ((.lt (.var 8) (.lit 0)), false), ((.gb 0 (.app 83 (.var 1) (.var 0) (.lit 0) (.lit 0) (.lit 0) (.lit 0) .nil) (.lit 0) (.lit 0)), true)]⟩]
def sLk6pn21 : List SumT := [
  ⟨.exit 0, 0, ⟨[], [], [], [], [], [], [], []⟩, [((.lt (.var 7) (.var (nLk + 0))), true), ((.lt (.var (nLk + 0)) (.lit 0)), false), ((.lt (.add (.var 7) (.lit 1)) (.var (nLk + 0))), false), ((.lt (.var (nLk + 2)) (.lit 0)), false), ((.lt (.var (nLk + 2)) (.lit 18446744073709551616)), true), ((.gb 0 qLwLk6pn0 (.lit 0) (.lit 0)), true), ((.eq qLwLk6pn1 (.add (.var 7) (.lit 1))), true), ((.lt (.var 0) (.lit 0)), false), ((.lt (.var 0) (.sub (.lit 65536) (.var 1))), true), ((.lt (.var 1) (.lit 1)), false), ((.lt (.var 1) (.lit 4097)), true), ((.lt (.var 3) (.lit 1)), false), ((.lt (.var 1) (.var 3)), false), ((.lt (.var 7) (.lit 0)), false), ((.lt (.lit 200) (.var 7)), false), ((.lt (.var 8) (.lit 0)), false), ((.gb 0 (.app 83 (.var 1) (.var 0) (.lit 0) (.lit 0) (.lit 0) (.lit 0) .nil) (.lit 0) (.lit 0)), true)]⟩]
def sLk6pn30 : List SumT := [
  ⟨.ret, 1, ⟨[], [], [], [], [], [], [], []⟩, [((.gb 0 qLwLk6pn3 (.lit 0) (.lit 0)), true), ((.lt (.var 7) (.var (nLk + 0))), false), ((.eq (.lit 0) (.gi 15 (.var 2) (.mul (.var (nLk + 0)) (.lit 10)) (.lit 0))), true), ((.eq (.lit 0) (.gi 15 (.var 2) (.mul (.var (nLk + 0)) (.lit 10)) (.lit 1))), true), ((.eq (.lit 0) (.gi 15 (.var 2) (.mul (.var (nLk + 0)) (.lit 10)) (.lit 2))), true), ((.eq (.lit 0) (.gi 15 (.var 2) (.mul (.var (nLk + 0)) (.lit 10)) (.lit 3))), true), ((.same (.lit false) (.gb 0 qLwLk6pn3 (.lit 0) (.lit 0))), true), ((.same (.lit true) (.gb 0 qLwLk6pn4 (.lit 0) (.lit 0))), true), ((.eq (.var (nLk + 14)) (.gi 15 (.var 2) (.mul (.var (nLk + 0)) (.lit 10)) (.lit 5))), true), ((.eq (.var (nLk + 15)) (.gi 15 (.var 2) (.mul (.var (nLk + 0)) (.lit 10)) (.lit 6))), true), ((.gb 0 qLwLk6pn5 (.lit 0) (.lit 0)), true), ((.gb 0 qLwLk6pn2 (.lit 0) (.lit 0)), true), ((.lt (.var (nLk + 0)) (.lit 0)), false), ((.lt (.add (.var 7) (.lit 1)) (.var (nLk + 0))), false), ((.gb 0 qLwLk6pn0 (.lit 0) (.lit 0)), true), ((.eq qLwLk6pn1 (.add (.var 7) (.lit 1))), true), ((.lt (.var 0) (.lit 0)), false), ((.lt (.var 0) (.sub (.lit 65536) (.var 1))), true), ((.lt (.var 1) (.lit 1)), false), ((.lt (.var 1) (.lit 4097)), true), ((.lt (.var 3) (.lit 1)), false), ((.lt (.var 1) (.var 3)), false), ((.lt (.var 7) (.lit 0)), false), ((.lt (.lit 200) (.var 7)), false), ((.lt (.var 8) (.lit 0)), false), ((.gb 0 (.app 83 (.var 1) (.var 0) (.lit 0) (.lit 0) (.lit 0) (.lit 0) .nil) (.lit 0) (.lit 0)), true)]⟩,
  ⟨.ret, 1, ⟨[], [], [], [], [], [], [], []⟩, [((.gb 0 qLwLk6pn4 (.lit 0) (.lit 0)), false), ((.gb 0 qLwLk6pn3 (.lit 0) (.lit 0)), false), ((.lt (.var 7) (.var (nLk + 0))), false), ((.eq (.lit 0) (.gi 15 (.var 2) (.mul (.var (nLk + 0)) (.lit 10)) (.lit 0))), true), ((.eq (.lit 0) (.gi 15 (.var 2) (.mul (.var (nLk + 0)) (.lit 10)) (.lit 1))), true), ((.eq (.lit 0) (.gi 15 (.var 2) (.mul (.var (nLk + 0)) (.lit 10)) (.lit 2))), true), ((.eq (.lit 0) (.gi 15 (.var 2) (.mul (.var (nLk + 0)) (.lit 10)) (.lit 3))), true), ((.same (.lit false) (.gb 0 qLwLk6pn3 (.lit 0) (.lit 0))), true), ((.same (.lit true) (.gb 0 qLwLk6pn4 (.lit 0) (.lit 0))), true), ((.eq (.var (nLk + 14)) (.gi 15 (.var 2) (.mul (.var (nLk + 0)) (.lit 10)) (.lit 5))), true), ((.eq (.var (nLk + 15)) (.gi 15 (.var 2) (.mul (.var (nLk + 0)) (.lit 10)) (.lit 6))), true), ((.gb 0 qLwLk6pn5 (.lit 0) (.lit 0)), true), ((.gb 0 qLwLk6pn2 (.lit 0) (.lit 0)), true), ((.lt (.var (nLk + 0)) (.lit 0)), false), ((.lt (.add (.var 7) (.lit 1)) (.var (nLk + 0))), false), ((.gb 0 qLwLk6pn0 (.lit 0) (.lit 0)), true), ((.eq qLwLk6pn1 (.add (.var 7) (.lit 1))), true), ((.lt (.var 0) (.lit 0)), false), ((.lt (.var 0) (.sub (.lit 65536) (.var 1))), true), ((.lt (.var 1) (.lit 1)), false), ((.lt (.var 1) (.lit 4097)), true), ((.lt (.var 3) (.lit 1)), false), ((.lt (.var 1) (.var 3)), false), ((.lt (.var 7) (.lit 0)), false), ((.lt (.lit 200) (.var 7)), false), ((.lt (.var 8) (.lit 0)), false), ((.gb 0 (.app 83 (.var 1) (.var 0) (.lit 0) (.lit 0) (.lit 0) (.lit 0) .nil) (.lit 0) (.lit 0)), true)]⟩,
  ⟨.normal, 3, ⟨[], [(15, (.var (nLk + 15))), (14, (.var (nLk + 14))), (13, (.var (nLk + 13))), (12, (.var (nLk + 12))), (11, (.var (nLk + 11))), (10, (.var (nLk + 10))), (0, (.add (.var (nLk + 0)) (.lit 1)))], [], [], [], [], [], []⟩, [((.lt (.var (nLk + 0)) (.var 7)), true), ((.gb 0 qLwLk6pn4 (.lit 0) (.lit 0)), true), ((.gb 0 qLwLk6pn3 (.lit 0) (.lit 0)), false), ((.lt (.var 7) (.var (nLk + 0))), false), ((.eq (.lit 0) (.gi 15 (.var 2) (.mul (.var (nLk + 0)) (.lit 10)) (.lit 0))), true), ((.eq (.lit 0) (.gi 15 (.var 2) (.mul (.var (nLk + 0)) (.lit 10)) (.lit 1))), true), ((.eq (.lit 0) (.gi 15 (.var 2) (.mul (.var (nLk + 0)) (.lit 10)) (.lit 2))), true), ((.eq (.lit 0) (.gi 15 (.var 2) (.mul (.var (nLk + 0)) (.lit 10)) (.lit 3))), true), ((.same (.lit false) (.gb 0 qLwLk6pn3 (.lit 0) (.lit 0))), true), ((.same (.lit true) (.gb 0 qLwLk6pn4 (.lit 0) (.lit 0))), true), ((.eq (.var (nLk + 14)) (.gi 15 (.var 2) (.mul (.var (nLk + 0)) (.lit 10)) (.lit 5))), true), ((.eq (.var (nLk + 15)) (.gi 15 (.var 2) (.mul (.var (nLk + 0)) (.lit 10)) (.lit 6))), true), ((.gb 0 qLwLk6pn5 (.lit 0) (.lit 0)), true), ((.gb 0 qLwLk6pn2 (.lit 0) (.lit 0)), true), ((.lt (.var (nLk + 0)) (.lit 0)), false), ((.lt (.add (.var 7) (.lit 1)) (.var (nLk + 0))), false), ((.gb 0 qLwLk6pn0 (.lit 0) (.lit 0)), true), ((.eq qLwLk6pn1 (.add (.var 7) (.lit 1))), true), ((.lt (.var 0) (.lit 0)), false), ((.lt (.var 0) (.sub (.lit 65536) (.var 1))), true), ((.lt (.var 1) (.lit 1)), false), ((.lt (.var 1) (.lit 4097)), true), ((.lt (.var 3) (.lit 1)), false), ((.lt (.var 1) (.var 3)), false), ((.lt (.var 7) (.lit 0)), false), ((.lt (.lit 200) (.var 7)), false), ((.lt (.var 8) (.lit 0)), false), ((.gb 0 (.app 83 (.var 1) (.var 0) (.lit 0) (.lit 0) (.lit 0) (.lit 0) .nil) (.lit 0) (.lit 0)), true)]⟩,
  ⟨.normal, 3, ⟨[], [(15, (.var (nLk + 15))), (14, (.var (nLk + 14))), (13, (.var (nLk + 13))), (12, (.var (nLk + 12))), (11, (.var (nLk + 11))), (10, (.var (nLk + 10))), (0, (.add (.var (nLk + 0)) (.lit 1)))], [], [], [], [], [], []⟩, [((.lt (.var (nLk + 0)) (.var 7)), false), ((.gb 0 qLwLk6pn4 (.lit 0) (.lit 0)), true), ((.gb 0 qLwLk6pn3 (.lit 0) (.lit 0)), false), ((.lt (.var 7) (.var (nLk + 0))), false), ((.eq (.lit 0) (.gi 15 (.var 2) (.mul (.var (nLk + 0)) (.lit 10)) (.lit 0))), true), ((.eq (.lit 0) (.gi 15 (.var 2) (.mul (.var (nLk + 0)) (.lit 10)) (.lit 1))), true), ((.eq (.lit 0) (.gi 15 (.var 2) (.mul (.var (nLk + 0)) (.lit 10)) (.lit 2))), true), ((.eq (.lit 0) (.gi 15 (.var 2) (.mul (.var (nLk + 0)) (.lit 10)) (.lit 3))), true), ((.same (.lit false) (.gb 0 qLwLk6pn3 (.lit 0) (.lit 0))), true), ((.same (.lit true) (.gb 0 qLwLk6pn4 (.lit 0) (.lit 0))), true), ((.eq (.var (nLk + 14)) (.gi 15 (.var 2) (.mul (.var (nLk + 0)) (.lit 10)) (.lit 5))), true), ((.eq (.var (nLk + 15)) (.gi 15 (.var 2) (.mul (.var (nLk + 0)) (.lit 10)) (.lit 6))), true), ((.gb 0 qLwLk6pn5 (.lit 0) (.lit 0)), true), ((.gb 0 qLwLk6pn2 (.lit 0) (.lit 0)), true), ((.lt (.var (nLk + 0)) (.lit 0)), false), ((.lt (.add (.var 7) (.lit 1)) (.var (nLk + 0))), false), ((.gb 0 qLwLk6pn0 (.lit 0) (.lit 0)), true), ((.eq qLwLk6pn1 (.add (.var 7) (.lit 1))), true), ((.lt (.var 0) (.lit 0)), false), ((.lt (.var 0) (.sub (.lit 65536) (.var 1))), true), ((.lt (.var 1) (.lit 1)), false), ((.lt (.var 1) (.lit 4097)), true), ((.lt (.var 3) (.lit 1)), false), ((.lt (.var 1) (.var 3)), false), ((.lt (.var 7) (.lit 0)), false), ((.lt (.lit 200) (.var 7)), false), ((.lt (.var 8) (.lit 0)), false), ((.gb 0 (.app 83 (.var 1) (.var 0) (.lit 0) (.lit 0) (.lit 0) (.lit 0) .nil) (.lit 0) (.lit 0)), true)]⟩]
def sLk6pn31 : List SumT := [
  ⟨.exit 0, 0, ⟨[], [], [], [], [], [], [], []⟩, [((.lt (.var 7) (.var (nLk + 0))), true), ((.lt (.var (nLk + 0)) (.lit 0)), false), ((.lt (.add (.var 7) (.lit 1)) (.var (nLk + 0))), false), ((.gb 0 qLwLk6pn0 (.lit 0) (.lit 0)), true), ((.eq qLwLk6pn1 (.add (.var 7) (.lit 1))), true), ((.lt (.var 0) (.lit 0)), false), ((.lt (.var 0) (.sub (.lit 65536) (.var 1))), true), ((.lt (.var 1) (.lit 1)), false), ((.lt (.var 1) (.lit 4097)), true), ((.lt (.var 3) (.lit 1)), false), ((.lt (.var 1) (.var 3)), false), ((.lt (.var 7) (.lit 0)), false), ((.lt (.lit 200) (.var 7)), false), ((.lt (.var 8) (.lit 0)), false), ((.gb 0 (.app 83 (.var 1) (.var 0) (.lit 0) (.lit 0) (.lit 0) (.lit 0) .nil) (.lit 0) (.lit 0)), true)]⟩]
theorem pcLk6pn_eq : (eLk Try.prog true false).pc = pcLk6pn := by kernel_rfl
theorem avLk6pn : pav nLk (nLk + 64) pcLk6pn = true := by kernel_rfl
theorem stLk6pn_ok : mAll nLk 0 0 Try.prog (eLk Try.prog true false).fr (eLk Try.prog true false).hp (hdLk Try.prog true false 0).fr (hdLk Try.prog true false 0).hp = some stLk6pn := by kernel_rfl
theorem oneLk6pn : (loopsAt Try.prog fLk 4).length = 1 := by kernel_rfl
theorem bLk6pn00 : sumsLk Try.prog true false 0 0 = some sLk6pn00 := by kernel_rfl
theorem bLk6pn01 : sumsLk Try.prog true false 0 1 = some sLk6pn01 := by kernel_rfl
theorem bLk6pn10 : sumsLk Try.prog true false 1 0 = some sLk6pn10 := by kernel_rfl
theorem bLk6pn11 : sumsLk Try.prog true false 1 1 = some sLk6pn11 := by kernel_rfl
theorem bLk6pn20 : sumsLk Try.prog true false 2 0 = some sLk6pn20 := by kernel_rfl
theorem bLk6pn21 : sumsLk Try.prog true false 2 1 = some sLk6pn21 := by kernel_rfl
theorem bLk6pn30 : sumsLk Try.prog true false 3 0 = some sLk6pn30 := by kernel_rfl
theorem bLk6pn31 : sumsLk Try.prog true false 3 1 = some sLk6pn31 := by kernel_rfl
theorem hLk6pn0 : (hdLk Try.prog true false 0).pc = basLk ++ u64C (.var (nLk + 2)) ++ pcLk6pn := by kernel_rfl
theorem hLk6pn1 : (hdLk Try.prog true false 1).pc = basLk ++ u64C (.var (nLk + 2)) ++ pcLk6pn := by kernel_rfl
theorem hLk6pn2 : (hdLk Try.prog true false 2).pc = basLk ++ u64C (.var (nLk + 2)) ++ pcLk6pn := by kernel_rfl
theorem hLk6pn3 : (hdLk Try.prog true false 3).pc = basLk ++ pcLk6pn := by kernel_rfl
end Go.Proofs.Ytlmenjenkpnacaa
end

section
namespace Go.Proofs.Ytlmenjenkpnacaa
open Go Go.Sy Go.RowKit

theorem oLk_ok6pn : OOK Try.prog (oLk Try.prog) inM := pruned_ok pr (sameN_ok (opCap_ok (opLoadSt_ok (opAppS_ok (opLoadS_ok (opAppendW_ok (opSliceT_ok qO_ok)))))))
structure FLk6pn (ν : Env Gh) : Prop where
  len0 : 0 ≤ ν.i 7
  len1 : ν.i 7 ≤ 200
  told : ∀ j, 0 ≤ (tolds (ν.g 1).t j).1 ∧ (tolds (ν.g 1).t j).1 < 18446744073709551616
  seen : nG (ν.g 2) = (se6 (ν.i 0) (ν.i 1) true (ν.i 3) false (ν.g 1).t (ν.i 7 + 1).toNat).map SC.nums
  a0 : 0 ≤ ν.i 0
  a1 : ν.i 0 < 65536 - ν.i 1
  n1 : 1 ≤ ν.i 1
  n2 : ν.i 1 ≤ 4096
  c1 : 1 ≤ ν.i 3
  c2 : ν.i 3 ≤ ν.i 1
theorem factsLk6pn {ν : Env Gh} (hI : ν.I = inM) (h : pcDen ν pcLk6pn) : FLk6pn ν := by
  have h2 := h
  simp only [pcLk6pn, qLwLk6pn0, qLwLk6pn1, pcDen_cons_iff, pcDen_nil_iff] at h2
  have h8 : (SB.gb 0 (.app 83 (.var 1) (.var 0) (.lit 0) (.lit 0) (.lit 0) (.lit 0) .nil) (.lit 0) (.lit 0)).den ν = true := pcAt h 11 rfl
  rw [x83 hI] at h8
  have h0 : (seenB 2 (begLk true false)).den ν = true := pcAt h 0 rfl
  simp only [seenB, SB.den, SG.den, SI.den, hI, inM, xga, SL.den] at h0
  have h1 : (nG (ν.g 2) == List.map SC.nums (seen6 ((begLk true false).den ν) (ν.g 1).t (ν.i 7 + 1).toNat)) = true := h0
  rw [se6_lk] at h1
  have h3 := h2.2.2
  simp only [SB.den, decide_eq_true_eq, decide_eq_false_iff_not] at h3
  simp only [SI.den] at h3
  exact ⟨by omega, by omega, fun j => tolds_u64 h8 j, eq_of_beq h1, by omega, by omega, by omega, by omega, by omega, by omega⟩
attribute [local irreducible] nmAt
theorem hpdLk6pn {ν : Env Gh} (hI : ν.I = inM) (h : pcDen ν pcLk6pn) {k : Nat} (hk : k < 4) {x : Vals Gh} (hJ : JLk6 true false k ν x) : pcDen (ν.at nLk x) (hdLk Try.prog true false k).pc := by
  have rf : RF nLk ν x (ν.at nLk x) := RF.self rfl
  have F := factsLk6pn hI h
  have F0 := F.len0
  have F1 := F.len1
  have hold : pcDen (ν.at nLk x) pcLk6pn := pcDen_agree (at_agree (ρ := fun _ => 0) (ρ' := fun _ => 0) (fun _ _ => rfl)) avLk6pn h
  have r0 : (ν.at nLk x).i nLk = x.i 0 := rf.i 0 (by decide)
  obtain ⟨j0, j1, j2⟩ := hJ
  have hbas : pcDen (ν.at nLk x) basLk := by
    refine pcDen_cons (lt_of ?_) (pcDen_one (lt_of ?_))
    · simp only [SI.den, r0, Bool.false_eq_true, iff_false]; omega
    · simp only [SI.den, r0, rf.io 7 (by decide), Bool.false_eq_true, iff_false]; omega
  match k, hk with
  | 0, _ =>
    obtain ⟨_, _, u0, u1, _⟩ := j2
    rw [hLk6pn0]
    refine pcDen_append (pcDen_append hbas (pcDen_cons (lt_of ?_) (pcDen_one (lt_of ?_)))) hold
    · simp only [SI.den, rf.i 2 (by decide), Bool.false_eq_true, iff_false]; omega
    · simp only [SI.den, rf.i 2 (by decide), iff_true]; omega
  | 1, _ =>
    obtain ⟨_, _, u0, u1, _⟩ := j2
    rw [hLk6pn1]
    refine pcDen_append (pcDen_append hbas (pcDen_cons (lt_of ?_) (pcDen_one (lt_of ?_)))) hold
    · simp only [SI.den, rf.i 2 (by decide), Bool.false_eq_true, iff_false]; omega
    · simp only [SI.den, rf.i 2 (by decide), iff_true]; omega
  | 2, _ =>
    obtain ⟨_, _, u0, u1, _⟩ := j2
    rw [hLk6pn2]
    refine pcDen_append (pcDen_append hbas (pcDen_cons (lt_of ?_) (pcDen_one (lt_of ?_)))) hold
    · simp only [SI.den, rf.i 2 (by decide), Bool.false_eq_true, iff_false]; omega
    · simp only [SI.den, rf.i 2 (by decide), iff_true]; omega
  | 3, _ => rw [hLk6pn3]; exact pcDen_append hbas hold
theorem nxLk6pn {ν : Env Gh} (hI : ν.I = inM) (h : pcDen ν pcLk6pn) {x y : Vals Gh} {k : Nat} (hk : k < 4) {g : Tgt} (hg : (headsLk Try.prog true false)[k]? = some g) (j0 : 0 ≤ x.i 0) (hle : x.i 0 ≤ ν.i 7) (y0 : y.i 0 = x.i 0 + 1)
    (hS : match (if false then 3 else k) with
      | 3 => (if x.i 0 < ν.i 7 then A6.step (ν.i 1) true (it6 (ν.i 1) true false (ν.g 1).t (x.i 0).toNat) (tolds (ν.g 1).t (x.i 0).toNat).1 (tolds (ν.g 1).t (x.i 0).toNat).2 else it6 (ν.i 1) true false (ν.g 1).t (x.i 0).toNat).dn = true ∧ (if x.i 0 < ν.i 7 then A6.step (ν.i 1) true (it6 (ν.i 1) true false (ν.g 1).t (x.i 0).toNat) (tolds (ν.g 1).t (x.i 0).toNat).1 (tolds (ν.g 1).t (x.i 0).toNat).2 else it6 (ν.i 1) true false (ν.g 1).t (x.i 0).toNat).cd = y.i 14 ∧ (if x.i 0 < ν.i 7 then A6.step (ν.i 1) true (it6 (ν.i 1) true false (ν.g 1).t (x.i 0).toNat) (tolds (ν.g 1).t (x.i 0).toNat).1 (tolds (ν.g 1).t (x.i 0).toNat).2 else it6 (ν.i 1) true false (ν.g 1).t (x.i 0).toNat).v = y.i 15
      | j => (if x.i 0 < ν.i 7 then A6.step (ν.i 1) true (it6 (ν.i 1) true false (ν.g 1).t (x.i 0).toNat) (tolds (ν.g 1).t (x.i 0).toNat).1 (tolds (ν.g 1).t (x.i 0).toNat).2 else it6 (ν.i 1) true false (ν.g 1).t (x.i 0).toNat).dn = false ∧ (if x.i 0 < ν.i 7 then A6.step (ν.i 1) true (it6 (ν.i 1) true false (ν.g 1).t (x.i 0).toNat) (tolds (ν.g 1).t (x.i 0).toNat).1 (tolds (ν.g 1).t (x.i 0).toNat).2 else it6 (ν.i 1) true false (ν.g 1).t (x.i 0).toNat).st = j + 1 ∧ 0 ≤ y.i 2 ∧ y.i 2 < 18446744073709551616 ∧ (1 ≤ j → (if x.i 0 < ν.i 7 then A6.step (ν.i 1) true (it6 (ν.i 1) true false (ν.g 1).t (x.i 0).toNat) (tolds (ν.g 1).t (x.i 0).toNat).1 (tolds (ν.g 1).t (x.i 0).toNat).2 else it6 (ν.i 1) true false (ν.g 1).t (x.i 0).toNat).h = y.i 2) ∧
        wnt6 (ν.i 0) (ν.i 3) true (if x.i 0 < ν.i 7 then A6.step (ν.i 1) true (it6 (ν.i 1) true false (ν.g 1).t (x.i 0).toNat) (tolds (ν.g 1).t (x.i 0).toNat).1 (tolds (ν.g 1).t (x.i 0).toNat).2 else it6 (ν.i 1) true false (ν.g 1).t (x.i 0).toNat) = (y.i 10, y.i 11, y.i 12, y.i 13)) {Ow : Prop} (ho : Ow) :
    JLk6 true false k ν y ∧ pcDen (ν.at nLk y) g.pc ∧ (ν.i 7 + 2 - y.i 0).toNat < (ν.i 7 + 2 - x.i 0).toNat ∧ Ow := by
  have hJ : JLk6 true false k ν y := by
    refine ⟨by omega, by omega, ?_⟩
    rw [y0, it6_next _ _ _ _ j0 hle]
    exact hS
  have e : g = hdLk Try.prog true false k := by unfold hdLk hdAt; rw [hg]; rfl
  refine ⟨hJ, ?_, by omega, ho⟩
  rw [e]
  exact hpdLk6pn hI h hk hJ
theorem loopLk6pn {O' : Orac} (oo' : OOK Try.prog O' inM) : OOK Try.prog (O'.withLoop fLk 4 nLk (eLk Try.prog true false).fr (eLk Try.prog true false).hp (mkM nLk (gLk (eLk Try.prog true false).fr) (bdLk Try.prog true false))) inM := by
  have hb : ∀ {ν : Env Gh}, (∀ x ∈ bdLk Try.prog true false, x.1.den ν ≠ x.2) → pcDen ν pcLk6pn := fun h => by unfold bdLk at h; rw [pcLk6pn_eq] at h; exact bads_of h
  refine loopC_ok pr oLk_ok6pn (rfl : nLk = nmAt 4) (by decide +kernel) oneLk6pn (heads := headsLk Try.prog true false) (tg := gLk (eLk Try.prog true false).fr) (sums := [[(caseA .nil, sLk6pn00), (caseB, sLk6pn01)], [(caseA .nil, sLk6pn10), (caseB, sLk6pn11)], [(caseA .nil, sLk6pn20), (caseB, sLk6pn21)], [(caseE, sLk6pn30), (caseB, sLk6pn31)]]) (start := stLk6pn) (h0 := hdLk Try.prog true false 0) (n := 6000) (it := 0) (ghL []) rfl ?_ rfl stLk6pn_ok (JLk6 true false) (fun _ ν x => (ν.i 7 + 2 - x.i 0).toNat) ?_ ?_ ?_ oo'
  · intro i h ss hh hs c hc
    match i, hh, hs with
    | 0, hh, hs =>
      cases hs
      have e : h = hdLk Try.prog true false 0 := by unfold hdLk hdAt; rw [hh]; rfl
      subst e
      simp only [List.mem_cons, List.not_mem_nil, or_false] at hc
      rcases hc with rfl | rfl
      · exact bLk6pn00
      · exact bLk6pn01
    | 1, hh, hs =>
      cases hs
      have e : h = hdLk Try.prog true false 1 := by unfold hdLk hdAt; rw [hh]; rfl
      subst e
      simp only [List.mem_cons, List.not_mem_nil, or_false] at hc
      rcases hc with rfl | rfl
      · exact bLk6pn10
      · exact bLk6pn11
    | 2, hh, hs =>
      cases hs
      have e : h = hdLk Try.prog true false 2 := by unfold hdLk hdAt; rw [hh]; rfl
      subst e
      simp only [List.mem_cons, List.not_mem_nil, or_false] at hc
      rcases hc with rfl | rfl
      · exact bLk6pn20
      · exact bLk6pn21
    | 3, hh, hs =>
      cases hs
      have e : h = hdLk Try.prog true false 3 := by unfold hdLk hdAt; rw [hh]; rfl
      subst e
      simp only [List.mem_cons, List.not_mem_nil, or_false] at hc
      rcases hc with rfl | rfl
      · exact bLk6pn30
      · exact bLk6pn31
    | m + 4, hh, hs => cases hs
  · intro ν hI hbd
    have hp' := hb hbd
    have F := factsLk6pn hI hp'
    have F0 := F.len0
    generalize hy : stLk6pn.vals (ghL []) ν = y
    have y0 : y.i 0 = 0 := by rw [← hy]; simp only [stLk6pn, Mt.vals, lkp_cons, lkp_nil, Nat.reduceEqDiff, reduceIte, SI.den]
    have hJ : JLk6 true false 0 ν y := by
      refine ⟨by omega, by omega, ?_⟩
      have em : (min (y.i 0) (ν.i 7)).toNat = 0 := by omega
      rw [em]
      simp only [← hy]
      simp [stLk6pn, Mt.vals, lkp_cons, lkp_nil, SI.den, it6, iterS, s6, wnt6]
    exact ⟨hJ, hpdLk6pn hI hp' (by decide) hJ, by constructor <;> simp [stLk6pn]⟩
  · intro i h ss hh hs ν x hI hbd hJ _
    have hp' := hb hbd
    have F := factsLk6pn hI hp'
    have F0 := F.len0
    have rf : RF nLk ν x (ν.at nLk x) := RF.self rfl
    have r0 : (ν.at nLk x).i nLk = x.i 0 := rf.i 0 (by decide)
    have r7 : (ν.at nLk x).i 7 = ν.i 7 := rf.io 7 (by decide)
    obtain ⟨j0, j1, j2⟩ := hJ
    by_cases hle : x.i 0 ≤ ν.i 7
    · have em : (min (x.i 0) (ν.i 7)).toNat = (x.i 0).toNat := by omega
      rw [em] at j2
      have hr : ∀ j : Int, 0 ≤ j → j < 10 → (getC ((ν.at nLk x).g 2).s ((ν.at nLk x).i nLk * 10 + j)).x = (getC (A6.obs (ν.i 0) true (ν.i 3) (it6 (ν.i 1) true false (ν.g 1).t (x.i 0).toNat)) j).x ∧ (getC ((ν.at nLk x).g 2).s ((ν.at nLk x).i nLk * 10 + j)).l = (getC (A6.obs (ν.i 0) true (ν.i 3) (it6 (ν.i 1) true false (ν.g 1).t (x.i 0).toNat)) j).l := fun j a b => by
        rw [rf.go 2 (by decide), r0]
        exact rows6 F.seen j0 (by omega) j a b
      match i, hs with
      | 0, hs =>
        cases hs
        obtain ⟨d1, d2, d3, d4, d5, d6⟩ := j2
        refine ⟨_, List.mem_cons_self .., caseA_den (rf.I.trans hI) hr (by rw [r0, r7]; exact hle) ?_⟩
        rw [obs6_live d1, d6, rf.i 10 (by decide), rf.i 11 (by decide), rf.i 12 (by decide), rf.i 13 (by decide)]
      | 1, hs =>
        cases hs
        obtain ⟨d1, d2, d3, d4, d5, d6⟩ := j2
        refine ⟨_, List.mem_cons_self .., caseA_den (rf.I.trans hI) hr (by rw [r0, r7]; exact hle) ?_⟩
        rw [obs6_live d1, d6, rf.i 10 (by decide), rf.i 11 (by decide), rf.i 12 (by decide), rf.i 13 (by decide)]
      | 2, hs =>
        cases hs
        obtain ⟨d1, d2, d3, d4, d5, d6⟩ := j2
        refine ⟨_, List.mem_cons_self .., caseA_den (rf.I.trans hI) hr (by rw [r0, r7]; exact hle) ?_⟩
        rw [obs6_live d1, d6, rf.i 10 (by decide), rf.i 11 (by decide), rf.i 12 (by decide), rf.i 13 (by decide)]
      | 3, hs =>
        cases hs
        obtain ⟨d1, d2, d3⟩ := j2
        refine ⟨_, List.mem_cons_self .., caseE_den (rf.I.trans hI) hr (by rw [r0, r7]; exact hle) ?_⟩
        rw [obs6_dead d1, d2, d3, rf.i 14 (by decide), rf.i 15 (by decide)]
      | m + 4, hs => cases hs
    · have hB : pcDen (ν.at nLk x) caseB := pcDen_one (lt_of (by simp only [SI.den, r0, r7, iff_true]; omega))
      match i, hs with
      | 0, hs => cases hs; exact ⟨_, List.mem_cons_of_mem _ (List.mem_cons_self ..), hB⟩
      | 1, hs => cases hs; exact ⟨_, List.mem_cons_of_mem _ (List.mem_cons_self ..), hB⟩
      | 2, hs => cases hs; exact ⟨_, List.mem_cons_of_mem _ (List.mem_cons_self ..), hB⟩
      | 3, hs => cases hs; exact ⟨_, List.mem_cons_of_mem _ (List.mem_cons_self ..), hB⟩
      | m + 4, hs => cases hs
  · intro i h ss hh hs c hc t ht ν x ν2 hI hbd hJ hpch _ rf hpc
    have hp' := hb hbd
    have F := factsLk6pn hI hp'
    have F0 := F.len0
    have F1 := F.len1
    have Fa0 := F.a0
    have Fa1 := F.a1
    have Fn1 := F.n1
    have Fn2 := F.n2
    have Fc1 := F.c1
    have Fc2 := F.c2
    have hI2 : ν2.I = inM := rf.I.trans hI
    have qa : ν2.i 0 = ν.i 0 := rf.io 0 (by decide)
    have qn : ν2.i 1 = ν.i 1 := rf.io 1 (by decide)
    have qc : ν2.i 3 = ν.i 3 := rf.io 3 (by decide)
    have q7 : ν2.i 7 = ν.i 7 := rf.io 7 (by decide)
    have qg : ν2.g 1 = ν.g 1 := rf.go 1 (by decide)
    have q0 : ν2.i (nLk + 0) = x.i 0 := rf.i 0 (by decide)
    have q2 : ν2.i (nLk + 2) = x.i 2 := rf.i 2 (by decide)
    have q10 : ν2.i (nLk + 10) = x.i 10 := rf.i 10 (by decide)
    have q11 : ν2.i (nLk + 11) = x.i 11 := rf.i 11 (by decide)
    have q12 : ν2.i (nLk + 12) = x.i 12 := rf.i 12 (by decide)
    have q13 : ν2.i (nLk + 13) = x.i 13 := rf.i 13 (by decide)
    have q14 : ν2.i (nLk + 14) = x.i 14 := rf.i 14 (by decide)
    have q15 : ν2.i (nLk + 15) = x.i 15 := rf.i 15 (by decide)
    obtain ⟨j0, j1, j2⟩ := hJ
    have T0 := F.told (x.i 0).toNat
    have bd := loW_bd (tolds (ν.g 1).t (x.i 0).toNat).1
    match i, hh, hs with
    | 0, hh, hs =>
      cases hs
      simp only [List.mem_cons, List.not_mem_nil, or_false] at hc
      rcases hc with rfl | rfl
      · simp only [sLk6pn00, qLwLk6pn0, qLwLk6pn1, qLwLk6pn2, qLwLk6pn3, qLwLk6pn4, List.mem_cons, List.not_mem_nil, or_false] at ht
        rcases ht with rfl | rfl | rfl | rfl
        · exfalso
          have e0 := pcAt hpc 0 rfl
          have e1 := pcAt hpc 6 rfl
          simp only [SB.den] at e0 e1
          rw [e0] at e1
          exact absurd e1 (by decide)
        · exfalso
          have e0 := pcAt hpc 0 rfl
          have e1 := pcAt hpc 8 rfl
          simp only [SB.den] at e0 e1
          rw [e0] at e1
          exact absurd e1 (by decide)
        · intro g hg
          dsimp only at hg ⊢
          simp only [pcDen_cons_iff, pcDen_nil_iff, SB.den, decide_eq_true_eq, decide_eq_false_iff_not, beq_iff_eq, beq_eq_false_iff_ne] at hpc
          simp only [SI.den, SG.den, gi10u hI2, gb11u hI2, q7, qn, qa, qg, q0, lo_wrap2] at hpc
          have hle : x.i 0 ≤ ν.i 7 := by omega
          have em : (min (x.i 0) (ν.i 7)).toNat = (x.i 0).toNat := by omega
          rw [em] at j2
          generalize hy : Mt.vals _ (ghL []) ν2 = y
          have y0 : y.i 0 = x.i 0 + 1 := by rw [← hy]; simp only [Mt.vals, lkp_cons, lkp_nil, Nat.reduceEqDiff, reduceIte, SI.den, q0]
          refine nxLk6pn hI hp' (by decide) hg j0 hle y0 ?_ (by constructor <;> simp)
          generalize it6 (ν.i 1) true false (ν.g 1).t (x.i 0).toNat = S at j2 ⊢
          obtain ⟨st, hh0, lk, dn', cd, v⟩ := S
          obtain ⟨d1, d2, d3, d4, d5, d6⟩ := j2
          dsimp only at d1 d2 d3 d4 d5 d6
          subst d1
          have d2' : st = 1 := d2
          subst d2'
          have hw := d6
          simp only [wnt6, pairW_lo, Prod.mk.injEq] at hw
          simp only [← hy, Mt.vals, lkp_cons, lkp_nil, Nat.reduceEqDiff, reduceIte, SI.den, SG.den, gi10u hI2, gb11u hI2, qa, qn, qc, qg, q0, q2, q10, q11, q12, q13, lo_wrap2, pair_or' _ d3 d4, IntKind.wrap_i64]
          generalize tolds (ν.g 1).t (x.i 0).toNat = T at hpc T0 bd ⊢
          obtain ⟨tv, tw⟩ := T
          dsimp only at hpc T0 bd ⊢
          by_cases hlt : x.i 0 < ν.i 7 <;> by_cases z0 : loW tv = 0 <;> by_cases z1 : ν.i 1 < loW tv <;> cases tw <;> first
            | (exfalso; omega)
            | (exfalso; simp at hpc; done)
            | (simp [hlt, z0, z1, A6.step, A6.head, A6.fin, wnt6, pairW_lo]; done)
            | (simp [hlt, z0, z1, A6.step, A6.head, A6.fin, wnt6, pairW_lo] <;> omega)
            | (simp [hlt, z0, z1, A6.step, A6.head, A6.fin, wnt6, pairW_lo]; simp at hw; refine ⟨?_, ?_⟩ <;> omega)
        · intro g hg
          dsimp only at hg ⊢
          simp only [pcDen_cons_iff, pcDen_nil_iff, SB.den, decide_eq_true_eq, decide_eq_false_iff_not, beq_iff_eq, beq_eq_false_iff_ne] at hpc
          simp only [SI.den, SG.den, gi10u hI2, gb11u hI2, q7, qn, qa, qg, q0, lo_wrap2] at hpc
          have hle : x.i 0 ≤ ν.i 7 := by omega
          have em : (min (x.i 0) (ν.i 7)).toNat = (x.i 0).toNat := by omega
          rw [em] at j2
          generalize hy : Mt.vals _ (ghL []) ν2 = y
          have y0 : y.i 0 = x.i 0 + 1 := by rw [← hy]; simp only [Mt.vals, lkp_cons, lkp_nil, Nat.reduceEqDiff, reduceIte, SI.den, q0]
          refine nxLk6pn hI hp' (by decide) hg j0 hle y0 ?_ (by constructor <;> simp)
          generalize it6 (ν.i 1) true false (ν.g 1).t (x.i 0).toNat = S at j2 ⊢
          obtain ⟨st, hh0, lk, dn', cd, v⟩ := S
          obtain ⟨d1, d2, d3, d4, d5, d6⟩ := j2
          dsimp only at d1 d2 d3 d4 d5 d6
          subst d1
          have d2' : st = 1 := d2
          subst d2'
          have hw := d6
          simp only [wnt6, pairW_lo, Prod.mk.injEq] at hw
          simp only [← hy, Mt.vals, lkp_cons, lkp_nil, Nat.reduceEqDiff, reduceIte, SI.den, SG.den, gi10u hI2, gb11u hI2, qa, qn, qc, qg, q0, q2, q10, q11, q12, q13, lo_wrap2, pair_or' _ d3 d4, IntKind.wrap_i64]
          generalize tolds (ν.g 1).t (x.i 0).toNat = T at hpc T0 bd ⊢
          obtain ⟨tv, tw⟩ := T
          dsimp only at hpc T0 bd ⊢
          by_cases hlt : x.i 0 < ν.i 7 <;> by_cases z0 : loW tv = 0 <;> by_cases z1 : ν.i 1 < loW tv <;> cases tw <;> first
            | (exfalso; omega)
            | (exfalso; simp at hpc; done)
            | (simp [hlt, z0, z1, A6.step, A6.head, A6.fin, wnt6, pairW_lo]; done)
            | (simp [hlt, z0, z1, A6.step, A6.head, A6.fin, wnt6, pairW_lo] <;> omega)
            | (simp [hlt, z0, z1, A6.step, A6.head, A6.fin, wnt6, pairW_lo]; simp at hw; refine ⟨?_, ?_⟩ <;> omega)
      · simp only [sLk6pn01, qLwLk6pn0, qLwLk6pn1, List.mem_cons, List.not_mem_nil, or_false] at ht
        subst ht
        exact ⟨fun g hg => by cases hg; exact pcDen_nil _, by constructor <;> simp⟩
    | 1, hh, hs =>
      cases hs
      simp only [List.mem_cons, List.not_mem_nil, or_false] at hc
      rcases hc with rfl | rfl
      · simp only [sLk6pn10, qLwLk6pn0, qLwLk6pn1, qLwLk6pn2, qLwLk6pn3, qLwLk6pn4, List.mem_cons, List.not_mem_nil, or_false] at ht
        rcases ht with rfl | rfl | rfl | rfl
        · exfalso
          have e0 := pcAt hpc 0 rfl
          have e1 := pcAt hpc 6 rfl
          simp only [SB.den] at e0 e1
          rw [e0] at e1
          exact absurd e1 (by decide)
        · exfalso
          have e0 := pcAt hpc 0 rfl
          have e1 := pcAt hpc 8 rfl
          simp only [SB.den] at e0 e1
          rw [e0] at e1
          exact absurd e1 (by decide)
        · intro g hg
          dsimp only at hg ⊢
          simp only [pcDen_cons_iff, pcDen_nil_iff, SB.den, decide_eq_true_eq, decide_eq_false_iff_not, beq_iff_eq, beq_eq_false_iff_ne] at hpc
          simp only [SI.den, SG.den, gi10u hI2, gb11u hI2, q7, qn, qa, qg, q0, lo_wrap2] at hpc
          have hle : x.i 0 ≤ ν.i 7 := by omega
          have em : (min (x.i 0) (ν.i 7)).toNat = (x.i 0).toNat := by omega
          rw [em] at j2
          generalize hy : Mt.vals _ (ghL []) ν2 = y
          have y0 : y.i 0 = x.i 0 + 1 := by rw [← hy]; simp only [Mt.vals, lkp_cons, lkp_nil, Nat.reduceEqDiff, reduceIte, SI.den, q0]
          refine nxLk6pn hI hp' (by decide) hg j0 hle y0 ?_ (by constructor <;> simp)
          generalize it6 (ν.i 1) true false (ν.g 1).t (x.i 0).toNat = S at j2 ⊢
          obtain ⟨st, hh0, lk, dn', cd, v⟩ := S
          obtain ⟨d1, d2, d3, d4, d5, d6⟩ := j2
          dsimp only at d1 d2 d3 d4 d5 d6
          subst d1
          have d2' : st = 2 := d2
          subst d2'
          have d5' : hh0 = x.i 2 := d5 (by decide)
          subst d5'
          have hw := d6
          simp only [wnt6, pairW_lo, Prod.mk.injEq] at hw
          simp only [← hy, Mt.vals, lkp_cons, lkp_nil, Nat.reduceEqDiff, reduceIte, SI.den, SG.den, gi10u hI2, gb11u hI2, qa, qn, qc, qg, q0, q2, q10, q11, q12, q13, lo_wrap2, pair_or' _ d3 d4, IntKind.wrap_i64]
          generalize tolds (ν.g 1).t (x.i 0).toNat = T at hpc T0 bd ⊢
          obtain ⟨tv, tw⟩ := T
          dsimp only at hpc T0 bd ⊢
          have z0 : True := trivial
          have z1 : True := trivial
          by_cases hlt : x.i 0 < ν.i 7 <;> cases tw <;> first
            | (exfalso; omega)
            | (exfalso; simp at hpc; done)
            | (simp [hlt, z0, z1, A6.step, A6.head, A6.fin, wnt6, pairW_lo]; done)
            | (simp [hlt, z0, z1, A6.step, A6.head, A6.fin, wnt6, pairW_lo] <;> omega)
            | (simp [hlt, z0, z1, A6.step, A6.head, A6.fin, wnt6, pairW_lo]; simp at hw; refine ⟨?_, ?_⟩ <;> omega)
        · intro g hg
          dsimp only at hg ⊢
          simp only [pcDen_cons_iff, pcDen_nil_iff, SB.den, decide_eq_true_eq, decide_eq_false_iff_not, beq_iff_eq, beq_eq_false_iff_ne] at hpc
          simp only [SI.den, SG.den, gi10u hI2, gb11u hI2, q7, qn, qa, qg, q0, lo_wrap2] at hpc
          have hle : x.i 0 ≤ ν.i 7 := by omega
          have em : (min (x.i 0) (ν.i 7)).toNat = (x.i 0).toNat := by omega
          rw [em] at j2
          generalize hy : Mt.vals _ (ghL []) ν2 = y
          have y0 : y.i 0 = x.i 0 + 1 := by rw [← hy]; simp only [Mt.vals, lkp_cons, lkp_nil, Nat.reduceEqDiff, reduceIte, SI.den, q0]
          refine nxLk6pn hI hp' (by decide) hg j0 hle y0 ?_ (by constructor <;> simp)
          generalize it6 (ν.i 1) true false (ν.g 1).t (x.i 0).toNat = S at j2 ⊢
          obtain ⟨st, hh0, lk, dn', cd, v⟩ := S
          obtain ⟨d1, d2, d3, d4, d5, d6⟩ := j2
          dsimp only at d1 d2 d3 d4 d5 d6
          subst d1
          have d2' : st = 2 := d2
          subst d2'
          have d5' : hh0 = x.i 2 := d5 (by decide)
          subst d5'
          have hw := d6
          simp only [wnt6, pairW_lo, Prod.mk.injEq] at hw
          simp only [← hy, Mt.vals, lkp_cons, lkp_nil, Nat.reduceEqDiff, reduceIte, SI.den, SG.den, gi10u hI2, gb11u hI2, qa, qn, qc, qg, q0, q2, q10, q11, q12, q13, lo_wrap2, pair_or' _ d3 d4, IntKind.wrap_i64]
          generalize tolds (ν.g 1).t (x.i 0).toNat = T at hpc T0 bd ⊢
          obtain ⟨tv, tw⟩ := T
          dsimp only at hpc T0 bd ⊢
          have z0 : True := trivial
          have z1 : True := trivial
          by_cases hlt : x.i 0 < ν.i 7 <;> cases tw <;> first
            | (exfalso; omega)
            | (exfalso; simp at hpc; done)
            | (simp [hlt, z0, z1, A6.step, A6.head, A6.fin, wnt6, pairW_lo]; done)
            | (simp [hlt, z0, z1, A6.step, A6.head, A6.fin, wnt6, pairW_lo] <;> omega)
            | (simp [hlt, z0, z1, A6.step, A6.head, A6.fin, wnt6, pairW_lo]; simp at hw; refine ⟨?_, ?_⟩ <;> omega)
      · simp only [sLk6pn11, qLwLk6pn0, qLwLk6pn1, List.mem_cons, List.not_mem_nil, or_false] at ht
        subst ht
        exact ⟨fun g hg => by cases hg; exact pcDen_nil _, by constructor <;> simp⟩
    | 2, hh, hs =>
      cases hs
      simp only [List.mem_cons, List.not_mem_nil, or_false] at hc
      rcases hc with rfl | rfl
      · simp only [sLk6pn20, qLwLk6pn0, qLwLk6pn1, qLwLk6pn2, qLwLk6pn3, qLwLk6pn4, List.mem_cons, List.not_mem_nil, or_false] at ht
        rcases ht with rfl | rfl | rfl | rfl | rfl
        · exfalso
          have e0 := pcAt hpc 0 rfl
          have e1 := pcAt hpc 6 rfl
          simp only [SB.den] at e0 e1
          rw [e0] at e1
          exact absurd e1 (by decide)
        · exfalso
          have e0 := pcAt hpc 0 rfl
          have e1 := pcAt hpc 8 rfl
          simp only [SB.den] at e0 e1
          rw [e0] at e1
          exact absurd e1 (by decide)
        · intro g hg
          dsimp only at hg ⊢
          simp only [pcDen_cons_iff, pcDen_nil_iff, SB.den, decide_eq_true_eq, decide_eq_false_iff_not, beq_iff_eq, beq_eq_false_iff_ne] at hpc
          simp only [SI.den, SG.den, gi10u hI2, gb11u hI2, q7, qn, qa, qg, q0, lo_wrap2] at hpc
          have hle : x.i 0 ≤ ν.i 7 := by omega
          have em : (min (x.i 0) (ν.i 7)).toNat = (x.i 0).toNat := by omega
          rw [em] at j2
          generalize hy : Mt.vals _ (ghL []) ν2 = y
          have y0 : y.i 0 = x.i 0 + 1 := by rw [← hy]; simp only [Mt.vals, lkp_cons, lkp_nil, Nat.reduceEqDiff, reduceIte, SI.den, q0]
          refine nxLk6pn hI hp' (by decide) hg j0 hle y0 ?_ (by constructor <;> simp)
          generalize it6 (ν.i 1) true false (ν.g 1).t (x.i 0).toNat = S at j2 ⊢
          obtain ⟨st, hh0, lk, dn', cd, v⟩ := S
          obtain ⟨d1, d2, d3, d4, d5, d6⟩ := j2
          dsimp only at d1 d2 d3 d4 d5 d6
          subst d1
          have d2' : st = 3 := d2
          subst d2'
          have d5' : hh0 = x.i 2 := d5 (by decide)
          subst d5'
          have hw := d6
          simp only [wnt6, pairW_lo, Prod.mk.injEq] at hw
          simp only [← hy, Mt.vals, lkp_cons, lkp_nil, Nat.reduceEqDiff, reduceIte, SI.den, SG.den, gi10u hI2, gb11u hI2, qa, qn, qc, qg, q0, q2, q10, q11, q12, q13, lo_wrap2, pair_or' _ d3 d4, IntKind.wrap_i64]
          generalize tolds (ν.g 1).t (x.i 0).toNat = T at hpc T0 bd ⊢
          obtain ⟨tv, tw⟩ := T
          dsimp only at hpc T0 bd ⊢
          by_cases hlt : x.i 0 < ν.i 7 <;> by_cases z0 : loW tv = 0 <;> by_cases z1 : ν.i 1 < loW tv <;> cases tw <;> first
            | (exfalso; omega)
            | (exfalso; simp at hpc; done)
            | (simp [hlt, z0, z1, A6.step, A6.head, A6.fin, wnt6, pairW_lo]; done)
            | (simp [hlt, z0, z1, A6.step, A6.head, A6.fin, wnt6, pairW_lo] <;> omega)
            | (simp [hlt, z0, z1, A6.step, A6.head, A6.fin, wnt6, pairW_lo]; simp at hw; refine ⟨?_, ?_⟩ <;> omega)
        · intro g hg
          dsimp only at hg ⊢
          simp only [pcDen_cons_iff, pcDen_nil_iff, SB.den, decide_eq_true_eq, decide_eq_false_iff_not, beq_iff_eq, beq_eq_false_iff_ne] at hpc
          simp only [SI.den, SG.den, gi10u hI2, gb11u hI2, q7, qn, qa, qg, q0, lo_wrap2] at hpc
          have hle : x.i 0 ≤ ν.i 7 := by omega
          have em : (min (x.i 0) (ν.i 7)).toNat = (x.i 0).toNat := by omega
          rw [em] at j2
          generalize hy : Mt.vals _ (ghL []) ν2 = y
          have y0 : y.i 0 = x.i 0 + 1 := by rw [← hy]; simp only [Mt.vals, lkp_cons, lkp_nil, Nat.reduceEqDiff, reduceIte, SI.den, q0]
          refine nxLk6pn hI hp' (by decide) hg j0 hle y0 ?_ (by constructor <;> simp)
          generalize it6 (ν.i 1) true false (ν.g 1).t (x.i 0).toNat = S at j2 ⊢
          obtain ⟨st, hh0, lk, dn', cd, v⟩ := S
          obtain ⟨d1, d2, d3, d4, d5, d6⟩ := j2
          dsimp only at d1 d2 d3 d4 d5 d6
          subst d1
          have d2' : st = 3 := d2
          subst d2'
          have d5' : hh0 = x.i 2 := d5 (by decide)
          subst d5'
          have hw := d6
          simp only [wnt6, pairW_lo, Prod.mk.injEq] at hw
          simp only [← hy, Mt.vals, lkp_cons, lkp_nil, Nat.reduceEqDiff, reduceIte, SI.den, SG.den, gi10u hI2, gb11u hI2, qa, qn, qc, qg, q0, q2, q10, q11, q12, q13, lo_wrap2, pair_or' _ d3 d4, IntKind.wrap_i64]
          generalize tolds (ν.g 1).t (x.i 0).toNat = T at hpc T0 bd ⊢
          obtain ⟨tv, tw⟩ := T
          dsimp only at hpc T0 bd ⊢
          by_cases hlt : x.i 0 < ν.i 7 <;> by_cases z0 : loW tv = 0 <;> by_cases z1 : ν.i 1 < loW tv <;> cases tw <;> first
            | (exfalso; omega)
            | (exfalso; simp at hpc; done)
            | (simp [hlt, z0, z1, A6.step, A6.head, A6.fin, wnt6, pairW_lo]; done)
            | (simp [hlt, z0, z1, A6.step, A6.head, A6.fin, wnt6, pairW_lo] <;> omega)
            | (simp [hlt, z0, z1, A6.step, A6.head, A6.fin, wnt6, pairW_lo]; simp at hw; refine ⟨?_, ?_⟩ <;> omega)
        · intro g hg
          dsimp only at hg ⊢
          simp only [pcDen_cons_iff, pcDen_nil_iff, SB.den, decide_eq_true_eq, decide_eq_false_iff_not, beq_iff_eq, beq_eq_false_iff_ne] at hpc
          simp only [SI.den, SG.den, gi10u hI2, gb11u hI2, q7, qn, qa, qg, q0, lo_wrap2] at hpc
          have hle : x.i 0 ≤ ν.i 7 := by omega
          have em : (min (x.i 0) (ν.i 7)).toNat = (x.i 0).toNat := by omega
          rw [em] at j2
          generalize hy : Mt.vals _ (ghL []) ν2 = y
          have y0 : y.i 0 = x.i 0 + 1 := by rw [← hy]; simp only [Mt.vals, lkp_cons, lkp_nil, Nat.reduceEqDiff, reduceIte, SI.den, q0]
          refine nxLk6pn hI hp' (by decide) hg j0 hle y0 ?_ (by constructor <;> simp)
          generalize it6 (ν.i 1) true false (ν.g 1).t (x.i 0).toNat = S at j2 ⊢
          obtain ⟨st, hh0, lk, dn', cd, v⟩ := S
          obtain ⟨d1, d2, d3, d4, d5, d6⟩ := j2
          dsimp only at d1 d2 d3 d4 d5 d6
          subst d1
          have d2' : st = 3 := d2
          subst d2'
          have d5' : hh0 = x.i 2 := d5 (by decide)
          subst d5'
          have hw := d6
          simp only [wnt6, pairW_lo, Prod.mk.injEq] at hw
          simp only [← hy, Mt.vals, lkp_cons, lkp_nil, Nat.reduceEqDiff, reduceIte, SI.den, SG.den, gi10u hI2, gb11u hI2, qa, qn, qc, qg, q0, q2, q10, q11, q12, q13, lo_wrap2, pair_or' _ d3 d4, IntKind.wrap_i64]
          generalize tolds (ν.g 1).t (x.i 0).toNat = T at hpc T0 bd ⊢
          obtain ⟨tv, tw⟩ := T
          dsimp only at hpc T0 bd ⊢
          by_cases hlt : x.i 0 < ν.i 7 <;> by_cases z0 : loW tv = 0 <;> by_cases z1 : ν.i 1 < loW tv <;> cases tw <;> first
            | (exfalso; omega)
            | (exfalso; simp at hpc; done)
            | (simp [hlt, z0, z1, A6.step, A6.head, A6.fin, wnt6, pairW_lo]; done)
            | (simp [hlt, z0, z1, A6.step, A6.head, A6.fin, wnt6, pairW_lo] <;> omega)
            | (simp [hlt, z0, z1, A6.step, A6.head, A6.fin, wnt6, pairW_lo]; simp at hw; refine ⟨?_, ?_⟩ <;> omega)
      · simp only [sLk6pn21, qLwLk6pn0, qLwLk6pn1, List.mem_cons, List.not_mem_nil, or_false] at ht
        subst ht
        exact ⟨fun g hg => by cases hg; exact pcDen_nil _, by constructor <;> simp⟩
    | 3, hh, hs =>
      cases hs
      simp only [List.mem_cons, List.not_mem_nil, or_false] at hc
      rcases hc with rfl | rfl
      · simp only [sLk6pn30, qLwLk6pn0, qLwLk6pn1, qLwLk6pn2, qLwLk6pn3, qLwLk6pn4, qLwLk6pn5, List.mem_cons, List.not_mem_nil, or_false] at ht
        rcases ht with rfl | rfl | rfl | rfl
        · exfalso
          have e0 := pcAt hpc 0 rfl
          have e1 := pcAt hpc 6 rfl
          simp only [SB.den] at e0 e1
          rw [e0] at e1
          exact absurd e1 (by decide)
        · exfalso
          have e0 := pcAt hpc 0 rfl
          have e1 := pcAt hpc 8 rfl
          simp only [SB.den] at e0 e1
          rw [e0] at e1
          exact absurd e1 (by decide)
        · intro g hg
          dsimp only at hg ⊢
          simp only [pcDen_cons_iff, pcDen_nil_iff, SB.den, decide_eq_true_eq, decide_eq_false_iff_not, beq_iff_eq, beq_eq_false_iff_ne] at hpc
          simp only [SI.den, SG.den, gi10u hI2, gb11u hI2, q7, qn, qa, qg, q0, lo_wrap2] at hpc
          have hle : x.i 0 ≤ ν.i 7 := by omega
          have em : (min (x.i 0) (ν.i 7)).toNat = (x.i 0).toNat := by omega
          rw [em] at j2
          generalize hy : Mt.vals _ (ghL []) ν2 = y
          have y0 : y.i 0 = x.i 0 + 1 := by rw [← hy]; simp only [Mt.vals, lkp_cons, lkp_nil, Nat.reduceEqDiff, reduceIte, SI.den, q0]
          refine nxLk6pn hI hp' (by decide) hg j0 hle y0 ?_ (by constructor <;> simp)
          generalize it6 (ν.i 1) true false (ν.g 1).t (x.i 0).toNat = S at j2 ⊢
          obtain ⟨st, hh0, lk, dn', cd, v⟩ := S
          obtain ⟨d1, d2, d3⟩ := j2
          dsimp only at d1 d2 d3
          subst d1
          simp only [← hy, Mt.vals, lkp_cons, lkp_nil, Nat.reduceEqDiff, reduceIte, SI.den, q14, q15]
          simp [A6.step, d2, d3]
        · intro g hg
          dsimp only at hg ⊢
          simp only [pcDen_cons_iff, pcDen_nil_iff, SB.den, decide_eq_true_eq, decide_eq_false_iff_not, beq_iff_eq, beq_eq_false_iff_ne] at hpc
          simp only [SI.den, SG.den, gi10u hI2, gb11u hI2, q7, qn, qa, qg, q0, lo_wrap2] at hpc
          have hle : x.i 0 ≤ ν.i 7 := by omega
          have em : (min (x.i 0) (ν.i 7)).toNat = (x.i 0).toNat := by omega
          rw [em] at j2
          generalize hy : Mt.vals _ (ghL []) ν2 = y
          have y0 : y.i 0 = x.i 0 + 1 := by rw [← hy]; simp only [Mt.vals, lkp_cons, lkp_nil, Nat.reduceEqDiff, reduceIte, SI.den, q0]
          refine nxLk6pn hI hp' (by decide) hg j0 hle y0 ?_ (by constructor <;> simp)
          generalize it6 (ν.i 1) true false (ν.g 1).t (x.i 0).toNat = S at j2 ⊢
          obtain ⟨st, hh0, lk, dn', cd, v⟩ := S
          obtain ⟨d1, d2, d3⟩ := j2
          dsimp only at d1 d2 d3
          subst d1
          simp only [← hy, Mt.vals, lkp_cons, lkp_nil, Nat.reduceEqDiff, reduceIte, SI.den, q14, q15]
          simp [A6.step, d2, d3]
      · simp only [sLk6pn31, qLwLk6pn0, qLwLk6pn1, List.mem_cons, List.not_mem_nil, or_false] at ht
        subst ht
        exact ⟨fun g hg => by cases hg; exact pcDen_nil _, by constructor <;> simp⟩
    | m + 4, hh, hs => cases hs
end Go.Proofs.Ytlmenjenkpnacaa
end
