/- What is seen of the document's lane, step by step (a Put, refused). (Printed by sn32.py.) -/
import Derived.Test.YtlmenjenkpnacaaLwXA
import Derived.Test.YtlmenjenkpnacaaLwXV
import Derived.Test.YtlmenjenkpnacaaLwXS
set_option linter.unusedVariables false
set_option linter.unusedSimpArgs false

section
namespace Go.Proofs.Ytlmenjenkpnacaa
open Go Go.Sy Go.RowKit
def zLwSn32pd0 : Nat := 5260135901548373507240989912806434948320061019614659372438935124170494381229535744882347198006576527136876520690865454719531996656666962103829106354085710405824947191608585901821569868969565883402979936554713088

def qLwSn32pd3 : SL := (.cons (.lit 3) (.cons (.lit 3) (.cons (.lit 7) (.cons (.lit 7) (.cons (.lit 8) (.cons (.lit 3) (.cons (.lit 7) (.cons (.lit 10) (.cons (.lit 8) (.cons (.lit 10) .nil))))))))))
def qLwSn32pd0 : SI := (.gi 17 (.app 78 (.var (n32 + 6)) (.var 0) (.lit 121) (.lit 10) (.var (n32 + 6)) (.lit 0) qLwSn32pd3) (.lit 0) (.lit 0))
def qLwSn32pd1 : SG := (.app 73 (.app 73 (.app 73 (.app 73 (.app 73 (.app 73 (.app 73 (.app 73 (.app 73 (.app 73 (.var (n32 + 6)) (.var zLwSn32pd0) (.lit 3) (.lit 1) (.lit 0) (.lit 0) .nil) (.var zLwSn32pd0) (.lit 3) (.wrap .i64 (.add (.wrap .i64 (.add (.var 0) (.lit 2))) (.wrap .i64 (.mul (.lit 2) (.wrap .i64 (.tmod (.var (n32 + 2)) (.wrap .u64 (.var 1)))))))) (.lit 1) (.lit 0) .nil) (.var zLwSn32pd0) (.lit 7) (.lit 0) (.lit 2) (.lit 0) .nil) (.var zLwSn32pd0) (.lit 7) (.lit 0) (.lit 3) (.lit 0) .nil) (.var zLwSn32pd0) (.lit 8) (.lit 1) (.lit 4) (.lit 0) .nil) (.var zLwSn32pd0) (.lit 3) (.lit 0) (.lit 5) (.lit 0) .nil) (.var zLwSn32pd0) (.lit 7) (.lit 0) (.lit 6) (.lit 0) .nil) (.var zLwSn32pd0) (.lit 9) (.lit 0) (.lit 7) (.lit 0) .nil) (.var zLwSn32pd0) (.lit 8) (.lit 0) (.lit 8) (.lit 0) .nil) (.var zLwSn32pd0) (.lit 10) (.lit 0) (.lit 9) (.lit 0) (.cons (.var 3) .nil))
def qLwSn32pd2 : SG := (.app 73 (.app 73 (.app 73 (.app 73 (.app 73 (.app 73 (.app 73 (.app 73 (.app 73 (.app 73 (.var (n32 + 6)) (.var zLwSn32pd0) (.lit 3) (.lit 3) (.lit 0) (.lit 0) .nil) (.var zLwSn32pd0) (.lit 3) (.var 0) (.lit 1) (.lit 0) .nil) (.var zLwSn32pd0) (.lit 7) (.var (n32 + 2)) (.lit 2) (.lit 0) .nil) (.var zLwSn32pd0) (.lit 7) (.wrap .u64 (.add (.var (n32 + 2)) (.lit 1))) (.lit 3) (.lit 0) .nil) (.var zLwSn32pd0) (.lit 8) (.lit 1) (.lit 4) (.lit 0) .nil) (.var zLwSn32pd0) (.lit 3) (.lit 0) (.lit 5) (.lit 0) .nil) (.var zLwSn32pd0) (.lit 7) (.lit 0) (.lit 6) (.lit 0) .nil) (.var zLwSn32pd0) (.lit 9) (.lit 0) (.lit 7) (.lit 0) .nil) (.var zLwSn32pd0) (.lit 8) (.lit 0) (.lit 8) (.lit 0) .nil) (.var zLwSn32pd0) (.lit 10) (.lit 0) (.lit 9) (.lit 0) (.cons (.var 3) .nil))
def qLwSn32pd4 : SG := (.app 73 (.app 73 (.app 73 (.app 73 (.app 73 (.app 73 (.app 73 (.app 73 (.app 73 (.app 73 (.var (n32 + 6)) (.var zLwSn32pd0) (.lit 3) (.lit 2) (.lit 0) (.lit 0) .nil) (.var zLwSn32pd0) (.lit 3) (.wrap .i64 (.add (.wrap .i64 (.add (.var 0) (.lit 2))) (.wrap .i64 (.mul (.lit 2) (.wrap .i64 (.tmod (.var (n32 + 2)) (.wrap .u64 (.var 1)))))))) (.lit 1) (.lit 0) .nil) (.var zLwSn32pd0) (.lit 7) (.wrap .u64 (.add (.var (n32 + 2)) (.lit 1))) (.lit 2) (.lit 0) .nil) (.var zLwSn32pd0) (.lit 7) (.lit 0) (.lit 3) (.lit 0) .nil) (.var zLwSn32pd0) (.lit 8) (.lit 1) (.lit 4) (.lit 0) .nil) (.var zLwSn32pd0) (.lit 3) (.lit 0) (.lit 5) (.lit 0) .nil) (.var zLwSn32pd0) (.lit 7) (.lit 0) (.lit 6) (.lit 0) .nil) (.var zLwSn32pd0) (.lit 9) (.lit 0) (.lit 7) (.lit 0) .nil) (.var zLwSn32pd0) (.lit 8) (.lit 0) (.lit 8) (.lit 0) .nil) (.var zLwSn32pd0) (.lit 10) (.lit 0) (.lit 9) (.lit 0) (.cons (.var 3) .nil))
def qLwSn32pd5 : SG := (.app 73 (.app 73 (.app 73 (.app 73 (.app 73 (.app 73 (.app 73 (.app 73 (.app 73 (.app 73 (.var (n32 + 6)) (.var zLwSn32pd0) (.lit 3) (.lit 2) (.lit 0) (.lit 0) .nil) (.var zLwSn32pd0) (.lit 3) (.wrap .i64 (.add (.wrap .i64 (.add (.wrap .i64 (.add (.var 0) (.lit 2))) (.wrap .i64 (.mul (.lit 2) (.wrap .i64 (.tmod (.var (n32 + 2)) (.wrap .u64 (.var 1)))))))) (.lit 1))) (.lit 1) (.lit 0) .nil) (.var zLwSn32pd0) (.lit 7) (.var 3) (.lit 2) (.lit 0) .nil) (.var zLwSn32pd0) (.lit 7) (.lit 0) (.lit 3) (.lit 0) .nil) (.var zLwSn32pd0) (.lit 8) (.lit 1) (.lit 4) (.lit 0) .nil) (.var zLwSn32pd0) (.lit 3) (.lit 0) (.lit 5) (.lit 0) .nil) (.var zLwSn32pd0) (.lit 7) (.lit 0) (.lit 6) (.lit 0) .nil) (.var zLwSn32pd0) (.lit 9) (.lit 0) (.lit 7) (.lit 0) .nil) (.var zLwSn32pd0) (.lit 8) (.lit 0) (.lit 8) (.lit 0) .nil) (.var zLwSn32pd0) (.lit 10) (.lit 0) (.lit 9) (.lit 0) (.cons (.var 3) .nil))
def qLwSn32pd6 : SG := (.app 73 (.app 73 (.app 73 (.app 73 (.app 73 (.app 73 (.app 73 (.app 73 (.app 73 (.app 73 (.app 1 (.var 0) (.var 0) (.lit 0) (.lit 0) (.lit 0) (.lit 0) .nil) (.var zLwSn32pd0) (.lit 3) (.lit 0) (.lit 0) (.lit 0) .nil) (.var zLwSn32pd0) (.lit 3) (.lit 0) (.lit 1) (.lit 0) .nil) (.var zLwSn32pd0) (.lit 7) (.lit 0) (.lit 2) (.lit 0) .nil) (.var zLwSn32pd0) (.lit 7) (.lit 0) (.lit 3) (.lit 0) .nil) (.var zLwSn32pd0) (.lit 8) (.lit 0) (.lit 4) (.lit 0) .nil) (.var zLwSn32pd0) (.lit 3) (.lit 2) (.lit 5) (.lit 0) .nil) (.var zLwSn32pd0) (.lit 7) (.lit 0) (.lit 6) (.lit 0) .nil) (.var zLwSn32pd0) (.lit 9) (.lit 0) (.lit 7) (.lit 0) .nil) (.var zLwSn32pd0) (.lit 8) (.lit 1) (.lit 8) (.lit 0) .nil) (.var zLwSn32pd0) (.lit 10) (.lit 0) (.lit 9) (.lit 0) .nil)
def qLwSn32pd7 : SG := (.app 73 (.app 73 (.app 73 (.app 73 (.app 73 (.app 73 (.app 73 (.app 73 (.app 73 (.app 73 (.var (n32 + 6)) (.var zLwSn32pd0) (.lit 3) (.lit 1) (.lit 0) (.lit 0) .nil) (.var zLwSn32pd0) (.lit 3) (.var 0) (.lit 1) (.lit 0) .nil) (.var zLwSn32pd0) (.lit 7) (.lit 0) (.lit 2) (.lit 0) .nil) (.var zLwSn32pd0) (.lit 7) (.lit 0) (.lit 3) (.lit 0) .nil) (.var zLwSn32pd0) (.lit 8) (.lit 1) (.lit 4) (.lit 0) .nil) (.var zLwSn32pd0) (.lit 3) (.lit 0) (.lit 5) (.lit 0) .nil) (.var zLwSn32pd0) (.lit 7) (.lit 0) (.lit 6) (.lit 0) .nil) (.var zLwSn32pd0) (.lit 9) (.lit 0) (.lit 7) (.lit 0) .nil) (.var zLwSn32pd0) (.lit 8) (.lit 0) (.lit 8) (.lit 0) .nil) (.var zLwSn32pd0) (.lit 10) (.lit 0) (.lit 9) (.lit 0) (.cons (.var 3) .nil))
def qLwSn32pd8 : SG := (.app 73 (.app 73 (.app 73 (.app 73 (.app 73 (.app 73 (.app 73 (.app 73 (.app 73 (.app 73 (.var (n32 + 6)) (.var zLwSn32pd0) (.lit 3) (.lit 0) (.lit 0) (.lit 0) .nil) (.var zLwSn32pd0) (.lit 3) (.lit 0) (.lit 1) (.lit 0) .nil) (.var zLwSn32pd0) (.lit 7) (.lit 0) (.lit 2) (.lit 0) .nil) (.var zLwSn32pd0) (.lit 7) (.lit 0) (.lit 3) (.lit 0) .nil) (.var zLwSn32pd0) (.lit 8) (.lit 0) (.lit 4) (.lit 0) .nil) (.var zLwSn32pd0) (.lit 3) (.var (n32 + 4)) (.lit 5) (.lit 0) .nil) (.var zLwSn32pd0) (.lit 7) (.var (n32 + 5)) (.lit 6) (.lit 0) .nil) (.var zLwSn32pd0) (.lit 9) (.lit 0) (.lit 7) (.lit 0) .nil) (.var zLwSn32pd0) (.lit 8) (.lit 1) (.lit 8) (.lit 0) .nil) (.var zLwSn32pd0) (.lit 10) (.lit 0) (.lit 9) (.lit 0) .nil)
def tLwSn32pd0 : PC := [((.lt (.var (n32 + 0)) (.lit 0)), false), ((.lt (.add (.var 7) (.lit 1)) (.var (n32 + 0))), false), ((.lt (.lit 201) qLwSn32pd0), false), ((.lt (.var (n32 + 2)) (.lit 0)), false), ((.lt (.var (n32 + 2)) (.lit 18446744073709551616)), true), ((.lt (.var (n32 + 1)) (.lit 1)), false), ((.lt (.lit 5) (.var (n32 + 1))), false), ((.lit false), true), ((.lt (.var 3) (.lit 0)), false), ((.lt (.var 3) (.lit 18446744073709551616)), true), ((.lt (.var 7) (.lit 0)), false), ((.lt (.lit 200) (.var 7)), false), ((.lt (.var 8) (.lit 0)), false), ((.gb 0 (.app 83 (.var 1) (.var 0) (.lit 0) (.lit 0) (.lit 0) (.lit 0) .nil) (.lit 0) (.lit 0)), true)]
def tLwSn32pd1 : PC := [((.lt (.var 3) (.lit 0)), false), ((.lt (.var 3) (.lit 18446744073709551616)), true), ((.lt (.var 7) (.lit 0)), false), ((.lt (.lit 200) (.var 7)), false), ((.lt (.var 8) (.lit 0)), false), ((.gb 0 (.app 83 (.var 1) (.var 0) (.lit 0) (.lit 0) (.lit 0) (.lit 0) .nil) (.lit 0) (.lit 0)), true)]
def pcSn32pd : PC := tLwSn32pd1
def sums0Sn32pd : List SumT := [
  ⟨.normal, 1, ⟨[((n32 + 6), zLwSn32pd0)], [(5, (.lit 0)), (4, (.lit 2)), (2, (.lit 0)), (1, (.lit 1)), (0, (.lit 1)), (6, (.var zLwSn32pd0))], [], [(6, qLwSn32pd6)], [((.gi 17 (.app 78 qLwSn32pd6 (.var 0) (.lit 121) (.lit 10) (.var zLwSn32pd0) (.lit 0) qLwSn32pd3) (.lit 0) (.lit 0)), qLwSn32pd0)], [], [], []⟩, (((.lt (.var 7) (.lit 1)), false) :: tLwSn32pd1)⟩,
  ⟨.normal, 1, ⟨[((n32 + 6), zLwSn32pd0)], [(5, (.lit 0)), (4, (.lit 2)), (2, (.lit 0)), (1, (.lit 1)), (0, (.lit 1)), (6, (.var zLwSn32pd0))], [], [(6, qLwSn32pd6)], [((.gi 17 (.app 78 qLwSn32pd6 (.var 0) (.lit 121) (.lit 10) (.var zLwSn32pd0) (.lit 0) qLwSn32pd3) (.lit 0) (.lit 0)), qLwSn32pd0)], [], [], []⟩, (((.lt (.var 7) (.lit 1)), true) :: tLwSn32pd1)⟩]
def sumsASn32pd : List SumT := [
  ⟨.normal, 0, ⟨[((n32 + 6), zLwSn32pd0)], [(2, (.gi 10 (.var 1) (.var (n32 + 0)) (.lit 0))), (1, (.lit 2)), (0, (.add (.var (n32 + 0)) (.lit 1))), (6, (.var zLwSn32pd0))], [], [(6, qLwSn32pd7)], [((.gi 17 (.app 78 qLwSn32pd7 (.var 0) (.lit 121) (.lit 10) (.var zLwSn32pd0) (.lit 0) qLwSn32pd3) (.lit 0) (.lit 0)), qLwSn32pd0)], [], [], []⟩, (((.lt (.var (n32 + 0)) (.var 7)), true) :: ((.lt (.var (n32 + 1)) (.lit 2)), true) :: ((.lt (.wrap .u64 (.var 1)) (.lit 1)), false) :: ((.lt (.var 7) (.var (n32 + 0))), false) :: tLwSn32pd0)⟩,
  ⟨.normal, 0, ⟨[((n32 + 6), zLwSn32pd0)], [(2, (.var (n32 + 2))), (1, (.var (n32 + 1))), (0, (.add (.var (n32 + 0)) (.lit 1))), (6, (.var zLwSn32pd0))], [], [(6, qLwSn32pd7)], [((.gi 17 (.app 78 qLwSn32pd7 (.var 0) (.lit 121) (.lit 10) (.var zLwSn32pd0) (.lit 0) qLwSn32pd3) (.lit 0) (.lit 0)), qLwSn32pd0)], [], [], []⟩, (((.lt (.var (n32 + 0)) (.var 7)), false) :: ((.lt (.var (n32 + 1)) (.lit 2)), true) :: ((.lt (.wrap .u64 (.var 1)) (.lit 1)), false) :: ((.lt (.var 7) (.var (n32 + 0))), false) :: tLwSn32pd0)⟩,
  ⟨.normal, 1, ⟨[((n32 + 6), zLwSn32pd0)], [(5, (.lit 0)), (4, (.lit 4)), (2, (.var (n32 + 2))), (1, (.lit 3)), (0, (.add (.var (n32 + 0)) (.lit 1))), (6, (.var zLwSn32pd0))], [], [(6, qLwSn32pd1)], [((.gi 17 (.app 78 qLwSn32pd1 (.var 0) (.lit 121) (.lit 10) (.var zLwSn32pd0) (.lit 0) qLwSn32pd3) (.lit 0) (.lit 0)), qLwSn32pd0)], [], [], []⟩, (((.lt (.wrap .i64 (.wrap .u64 (.sub (.gi 10 (.var 1) (.var (n32 + 0)) (.lit 0)) (.var (n32 + 2))))) (.lit 0)), true) :: ((.lt (.var (n32 + 0)) (.var 7)), true) :: ((.lt (.var (n32 + 1)) (.lit 3)), true) :: ((.lt (.var (n32 + 1)) (.lit 2)), false) :: ((.lt (.wrap .u64 (.var 1)) (.lit 1)), false) :: ((.lt (.var 7) (.var (n32 + 0))), false) :: tLwSn32pd0)⟩,
  ⟨.normal, 0, ⟨[((n32 + 6), zLwSn32pd0)], [(2, (.var (n32 + 2))), (1, (.lit 1)), (0, (.add (.var (n32 + 0)) (.lit 1))), (6, (.var zLwSn32pd0))], [], [(6, qLwSn32pd1)], [((.gi 17 (.app 78 qLwSn32pd1 (.var 0) (.lit 121) (.lit 10) (.var zLwSn32pd0) (.lit 0) qLwSn32pd3) (.lit 0) (.lit 0)), qLwSn32pd0)], [], [], []⟩, (((.lt (.wrap .i64 (.wrap .u64 (.sub (.gi 10 (.var 1) (.var (n32 + 0)) (.lit 0)) (.var (n32 + 2))))) (.lit 1)), false) :: ((.lt (.wrap .i64 (.wrap .u64 (.sub (.gi 10 (.var 1) (.var (n32 + 0)) (.lit 0)) (.var (n32 + 2))))) (.lit 0)), false) :: ((.lt (.var (n32 + 0)) (.var 7)), true) :: ((.lt (.var (n32 + 1)) (.lit 3)), true) :: ((.lt (.var (n32 + 1)) (.lit 2)), false) :: ((.lt (.wrap .u64 (.var 1)) (.lit 1)), false) :: ((.lt (.var 7) (.var (n32 + 0))), false) :: tLwSn32pd0)⟩,
  ⟨.normal, 0, ⟨[((n32 + 6), zLwSn32pd0)], [(2, (.var (n32 + 2))), (1, (.lit 3)), (0, (.add (.var (n32 + 0)) (.lit 1))), (6, (.var zLwSn32pd0))], [], [(6, qLwSn32pd1)], [((.gi 17 (.app 78 qLwSn32pd1 (.var 0) (.lit 121) (.lit 10) (.var zLwSn32pd0) (.lit 0) qLwSn32pd3) (.lit 0) (.lit 0)), qLwSn32pd0)], [], [], []⟩, (((.lt (.wrap .i64 (.wrap .u64 (.sub (.gi 10 (.var 1) (.var (n32 + 0)) (.lit 0)) (.var (n32 + 2))))) (.lit 1)), true) :: ((.lt (.wrap .i64 (.wrap .u64 (.sub (.gi 10 (.var 1) (.var (n32 + 0)) (.lit 0)) (.var (n32 + 2))))) (.lit 0)), false) :: ((.lt (.var (n32 + 0)) (.var 7)), true) :: ((.lt (.var (n32 + 1)) (.lit 3)), true) :: ((.lt (.var (n32 + 1)) (.lit 2)), false) :: ((.lt (.wrap .u64 (.var 1)) (.lit 1)), false) :: ((.lt (.var 7) (.var (n32 + 0))), false) :: tLwSn32pd0)⟩,
  ⟨.normal, 0, ⟨[((n32 + 6), zLwSn32pd0)], [(2, (.var (n32 + 2))), (1, (.var (n32 + 1))), (0, (.add (.var (n32 + 0)) (.lit 1))), (6, (.var zLwSn32pd0))], [], [(6, qLwSn32pd1)], [((.gi 17 (.app 78 qLwSn32pd1 (.var 0) (.lit 121) (.lit 10) (.var zLwSn32pd0) (.lit 0) qLwSn32pd3) (.lit 0) (.lit 0)), qLwSn32pd0)], [], [], []⟩, (((.lt (.var (n32 + 0)) (.var 7)), false) :: ((.lt (.var (n32 + 1)) (.lit 3)), true) :: ((.lt (.var (n32 + 1)) (.lit 2)), false) :: ((.lt (.wrap .u64 (.var 1)) (.lit 1)), false) :: ((.lt (.var 7) (.var (n32 + 0))), false) :: tLwSn32pd0)⟩,
  ⟨.normal, 0, ⟨[((n32 + 6), zLwSn32pd0)], [(2, (.gi 10 (.var 1) (.var (n32 + 0)) (.lit 0))), (1, (.lit 2)), (0, (.add (.var (n32 + 0)) (.lit 1))), (6, (.var zLwSn32pd0))], [], [(6, qLwSn32pd2)], [((.gi 17 (.app 78 qLwSn32pd2 (.var 0) (.lit 121) (.lit 10) (.var zLwSn32pd0) (.lit 0) qLwSn32pd3) (.lit 0) (.lit 0)), qLwSn32pd0)], [], [], []⟩, (((.gb 11 (.var 1) (.var (n32 + 0)) (.lit 0)), false) :: ((.lt (.var (n32 + 0)) (.var 7)), true) :: ((.lt (.var (n32 + 1)) (.lit 4)), true) :: ((.lt (.var (n32 + 1)) (.lit 3)), false) :: ((.lt (.var (n32 + 1)) (.lit 2)), false) :: ((.lt (.wrap .u64 (.var 1)) (.lit 1)), false) :: ((.lt (.var 7) (.var (n32 + 0))), false) :: tLwSn32pd0)⟩,
  ⟨.normal, 0, ⟨[((n32 + 6), zLwSn32pd0)], [(2, (.var (n32 + 2))), (1, (.lit 4)), (0, (.add (.var (n32 + 0)) (.lit 1))), (6, (.var zLwSn32pd0))], [], [(6, qLwSn32pd2)], [((.gi 17 (.app 78 qLwSn32pd2 (.var 0) (.lit 121) (.lit 10) (.var zLwSn32pd0) (.lit 0) qLwSn32pd3) (.lit 0) (.lit 0)), qLwSn32pd0)], [], [], []⟩, (((.gb 11 (.var 1) (.var (n32 + 0)) (.lit 0)), true) :: ((.lt (.var (n32 + 0)) (.var 7)), true) :: ((.lt (.var (n32 + 1)) (.lit 4)), true) :: ((.lt (.var (n32 + 1)) (.lit 3)), false) :: ((.lt (.var (n32 + 1)) (.lit 2)), false) :: ((.lt (.wrap .u64 (.var 1)) (.lit 1)), false) :: ((.lt (.var 7) (.var (n32 + 0))), false) :: tLwSn32pd0)⟩,
  ⟨.normal, 0, ⟨[((n32 + 6), zLwSn32pd0)], [(2, (.var (n32 + 2))), (1, (.var (n32 + 1))), (0, (.add (.var (n32 + 0)) (.lit 1))), (6, (.var zLwSn32pd0))], [], [(6, qLwSn32pd2)], [((.gi 17 (.app 78 qLwSn32pd2 (.var 0) (.lit 121) (.lit 10) (.var zLwSn32pd0) (.lit 0) qLwSn32pd3) (.lit 0) (.lit 0)), qLwSn32pd0)], [], [], []⟩, (((.lt (.var (n32 + 0)) (.var 7)), false) :: ((.lt (.var (n32 + 1)) (.lit 4)), true) :: ((.lt (.var (n32 + 1)) (.lit 3)), false) :: ((.lt (.var (n32 + 1)) (.lit 2)), false) :: ((.lt (.wrap .u64 (.var 1)) (.lit 1)), false) :: ((.lt (.var 7) (.var (n32 + 0))), false) :: tLwSn32pd0)⟩,
  ⟨.normal, 0, ⟨[((n32 + 6), zLwSn32pd0)], [(2, (.var (n32 + 2))), (1, (.lit 5)), (0, (.add (.var (n32 + 0)) (.lit 1))), (6, (.var zLwSn32pd0))], [], [(6, qLwSn32pd5)], [((.gi 17 (.app 78 qLwSn32pd5 (.var 0) (.lit 121) (.lit 10) (.var zLwSn32pd0) (.lit 0) qLwSn32pd3) (.lit 0) (.lit 0)), qLwSn32pd0)], [], [], []⟩, (((.lt (.var (n32 + 0)) (.var 7)), true) :: ((.lt (.var (n32 + 1)) (.lit 5)), true) :: ((.lt (.var (n32 + 1)) (.lit 4)), false) :: ((.lt (.var (n32 + 1)) (.lit 3)), false) :: ((.lt (.var (n32 + 1)) (.lit 2)), false) :: ((.lt (.wrap .u64 (.var 1)) (.lit 1)), false) :: ((.lt (.var 7) (.var (n32 + 0))), false) :: tLwSn32pd0)⟩,
  ⟨.normal, 0, ⟨[((n32 + 6), zLwSn32pd0)], [(2, (.var (n32 + 2))), (1, (.var (n32 + 1))), (0, (.add (.var (n32 + 0)) (.lit 1))), (6, (.var zLwSn32pd0))], [], [(6, qLwSn32pd5)], [((.gi 17 (.app 78 qLwSn32pd5 (.var 0) (.lit 121) (.lit 10) (.var zLwSn32pd0) (.lit 0) qLwSn32pd3) (.lit 0) (.lit 0)), qLwSn32pd0)], [], [], []⟩, (((.lt (.var (n32 + 0)) (.var 7)), false) :: ((.lt (.var (n32 + 1)) (.lit 5)), true) :: ((.lt (.var (n32 + 1)) (.lit 4)), false) :: ((.lt (.var (n32 + 1)) (.lit 3)), false) :: ((.lt (.var (n32 + 1)) (.lit 2)), false) :: ((.lt (.wrap .u64 (.var 1)) (.lit 1)), false) :: ((.lt (.var 7) (.var (n32 + 0))), false) :: tLwSn32pd0)⟩,
  ⟨.normal, 1, ⟨[((n32 + 6), zLwSn32pd0)], [(5, (.lit 0)), (4, (.lit 0)), (2, (.var (n32 + 2))), (1, (.var (n32 + 1))), (0, (.add (.var (n32 + 0)) (.lit 1))), (6, (.var zLwSn32pd0))], [], [(6, qLwSn32pd4)], [((.gi 17 (.app 78 qLwSn32pd4 (.var 0) (.lit 121) (.lit 10) (.var zLwSn32pd0) (.lit 0) qLwSn32pd3) (.lit 0) (.lit 0)), qLwSn32pd0)], [], [], []⟩, (((.lt (.var (n32 + 0)) (.var 7)), true) :: ((.lt (.var (n32 + 1)) (.lit 5)), false) :: ((.lt (.var (n32 + 1)) (.lit 4)), false) :: ((.lt (.var (n32 + 1)) (.lit 3)), false) :: ((.lt (.var (n32 + 1)) (.lit 2)), false) :: ((.lt (.wrap .u64 (.var 1)) (.lit 1)), false) :: ((.lt (.var 7) (.var (n32 + 0))), false) :: tLwSn32pd0)⟩,
  ⟨.normal, 0, ⟨[((n32 + 6), zLwSn32pd0)], [(2, (.var (n32 + 2))), (1, (.var (n32 + 1))), (0, (.add (.var (n32 + 0)) (.lit 1))), (6, (.var zLwSn32pd0))], [], [(6, qLwSn32pd4)], [((.gi 17 (.app 78 qLwSn32pd4 (.var 0) (.lit 121) (.lit 10) (.var zLwSn32pd0) (.lit 0) qLwSn32pd3) (.lit 0) (.lit 0)), qLwSn32pd0)], [], [], []⟩, (((.lt (.var (n32 + 0)) (.var 7)), false) :: ((.lt (.var (n32 + 1)) (.lit 5)), false) :: ((.lt (.var (n32 + 1)) (.lit 4)), false) :: ((.lt (.var (n32 + 1)) (.lit 3)), false) :: ((.lt (.var (n32 + 1)) (.lit 2)), false) :: ((.lt (.wrap .u64 (.var 1)) (.lit 1)), false) :: ((.lt (.var 7) (.var (n32 + 0))), false) :: tLwSn32pd0)⟩,
  ⟨.bad, 0, ⟨[], [], [], [], [], [], [], []⟩, (((.lt (.wrap .u64 (.var 1)) (.lit 1)), true) :: ((.lt (.var 7) (.var (n32 + 0))), false) :: tLwSn32pd0)⟩,
  ⟨.exit 0, 0, ⟨[((n32 + 6), (n32 + 6))], [(6, (.var (n32 + 6)))], [], [(6, (.var (n32 + 6)))], [(qLwSn32pd0, qLwSn32pd0)], [], [], []⟩, (((.lt (.var 7) (.var (n32 + 0))), true) :: tLwSn32pd0)⟩]
def sumsBSn32pd : List SumT := [
  ⟨.normal, 1, ⟨[((n32 + 6), zLwSn32pd0)], [(5, (.var (n32 + 5))), (4, (.var (n32 + 4))), (2, (.var (n32 + 2))), (1, (.var (n32 + 1))), (0, (.add (.var (n32 + 0)) (.lit 1))), (6, (.var zLwSn32pd0))], [], [(6, qLwSn32pd8)], [((.gi 17 (.app 78 qLwSn32pd8 (.var 0) (.lit 121) (.lit 10) (.var zLwSn32pd0) (.lit 0) qLwSn32pd3) (.lit 0) (.lit 0)), qLwSn32pd0)], [], [], []⟩, (((.lt (.var (n32 + 0)) (.var 7)), true) :: ((.lt (.var 7) (.var (n32 + 0))), false) :: ((.lt (.var (n32 + 0)) (.lit 0)), false) :: ((.lt (.add (.var 7) (.lit 1)) (.var (n32 + 0))), false) :: ((.lt (.lit 201) qLwSn32pd0), false) :: tLwSn32pd1)⟩,
  ⟨.normal, 1, ⟨[((n32 + 6), zLwSn32pd0)], [(5, (.var (n32 + 5))), (4, (.var (n32 + 4))), (2, (.var (n32 + 2))), (1, (.var (n32 + 1))), (0, (.add (.var (n32 + 0)) (.lit 1))), (6, (.var zLwSn32pd0))], [], [(6, qLwSn32pd8)], [((.gi 17 (.app 78 qLwSn32pd8 (.var 0) (.lit 121) (.lit 10) (.var zLwSn32pd0) (.lit 0) qLwSn32pd3) (.lit 0) (.lit 0)), qLwSn32pd0)], [], [], []⟩, (((.lt (.var (n32 + 0)) (.var 7)), false) :: ((.lt (.var 7) (.var (n32 + 0))), false) :: ((.lt (.var (n32 + 0)) (.lit 0)), false) :: ((.lt (.add (.var 7) (.lit 1)) (.var (n32 + 0))), false) :: ((.lt (.lit 201) qLwSn32pd0), false) :: tLwSn32pd1)⟩,
  ⟨.exit 0, 0, ⟨[((n32 + 6), (n32 + 6))], [(6, (.var (n32 + 6)))], [], [(6, (.var (n32 + 6)))], [(qLwSn32pd0, qLwSn32pd0)], [], [], []⟩, (((.lt (.var 7) (.var (n32 + 0))), true) :: ((.lt (.var (n32 + 0)) (.lit 0)), false) :: ((.lt (.add (.var 7) (.lit 1)) (.var (n32 + 0))), false) :: ((.lt (.lit 201) qLwSn32pd0), false) :: tLwSn32pd1)⟩]
theorem pcSn32pd_eq : (e32 Try.prog true true).pc = pcSn32pd := by kernel_rfl
theorem avSn32pd : pav n32 (n32 + 64) pcSn32pd = true := by kernel_rfl
theorem b0Sn32pd : sums032 Try.prog true true = some sums0Sn32pd := by kernel_rfl
theorem bASn32pd : sums32 Try.prog true true 0 = some sumsASn32pd := by kernel_rfl
theorem bBSn32pd : sums32 Try.prog true true 1 = some sumsBSn32pd := by kernel_rfl
theorem oneSn32pd : (loopsAt Try.prog f32S 3).length = 1 := by kernel_rfl
def baseSn32pd : PC := [(.lt (.var n32) (.lit 0), false), (.lt (.add (.var 7) (.lit 1)) (.var n32), false), (.lt (.lit 201) (rowsS (stN (n32 + 6))), false)]
def hpSn32pd (k : Nat) : PC := match k with | 0 => u64D (.var (n32 + 2)) ++ [(.lt (.var (n32 + 1)) (.lit 1), false), (.lt (.lit 5) (.var (n32 + 1)), false)] ++ ([]) ++ [(.lit false, true)] | _ => []
theorem h0Sn32pd : (hd32 Try.prog true true 0).pc = baseSn32pd ++ hpSn32pd 0 ++ pcSn32pd := by kernel_rfl
theorem h1Sn32pd : (hd32 Try.prog true true 1).pc = baseSn32pd ++ hpSn32pd 1 ++ pcSn32pd := by kernel_rfl
structure FSn32pd (ν : Env Gh) : Prop where
  len0 : 0 ≤ ν.i 7
  len1 : ν.i 7 ≤ 200
  told : ∀ j, 0 ≤ (tolds (ν.g 1).t j).1 ∧ (tolds (ν.g 1).t j).1 < 18446744073709551616
  v0 : 0 ≤ ν.i 3
  v1 : ν.i 3 < 18446744073709551616
theorem factsSn32pd {ν : Env Gh} (hI : ν.I = inM) (h : pcDen ν pcSn32pd) : FSn32pd ν := by
  have h2 := h
  simp only [pcSn32pd, tLwSn32pd1, pcDen_cons_iff, pcDen_nil_iff] at h2
  have h8 : (SB.gb 0 (.app 83 (.var 1) (.var 0) (.lit 0) (.lit 0) (.lit 0) (.lit 0) .nil) (.lit 0) (.lit 0)).den ν = true := pcAt h 5 rfl
  rw [x83 hI] at h8
  simp only [SB.den, decide_eq_true_eq, decide_eq_false_iff_not] at h2
  simp only [SI.den] at h2
  exact ⟨by omega, by omega, fun j => tolds_u64 h8 j, by omega, by omega⟩
attribute [local irreducible] nmAt
theorem rowsSn32pd {ν : Env Gh} {x : Vals Gh} (hI : ν.I = inM) : (rowsS (stN (n32 + 6))).den (ν.at n32 x) = (((nG (x.g 6)).length / 10 : Nat) : Int) := by
  have rf : RF n32 ν x (ν.at n32 x) := RF.self rfl
  unfold rowsS stN St.full stG
  rw [gi17 (rf.I.trans hI)]
  simp only [SG.den, SI.den, rf.g 6 (by decide)]
  rfl
theorem hpdSn32pd {ν : Env Gh} (hI : ν.I = inM) (h : pcDen ν pcSn32pd) {k : Nat} (hk : k < 2) {x : Vals Gh} (hJ : J32 true true k ν x) : pcDen (ν.at n32 x) (hd32 Try.prog true true k).pc := by
  have F := factsSn32pd hI h
  have rf : RF n32 ν x (ν.at n32 x) := RF.self rfl
  have r0 : (ν.at n32 x).i n32 = x.i 0 := rf.i 0 (by decide)
  have hold : pcDen (ν.at n32 x) pcSn32pd := pcDen_agree (at_agree (ρ := fun _ => 0) (ρ' := fun _ => 0) (fun _ _ => rfl)) avSn32pd h
  obtain ⟨j0, j1, j2, j3⟩ := hJ
  have hl : (nG (x.g 6)).length = (x.i 0).toNat * 10 := by rw [j2, List.length_map, se32_len]
  have F0 := F.len0
  have F1 := F.len1
  have base : pcDen (ν.at n32 x) baseSn32pd := by
    refine pcDen_cons (lt_of ?_) (pcDen_cons (lt_of ?_) (pcDen_one (lt_of ?_)))
    · simp only [SI.den, r0, Bool.false_eq_true, iff_false]; omega
    · simp only [SI.den, r0, rf.io 7 (by decide), Bool.false_eq_true, iff_false]; omega
    · rw [rowsSn32pd hI, hl]
      simp only [SI.den, Bool.false_eq_true, iff_false]; omega
  match k, hk with
  | 0, _ =>
    rw [h0Sn32pd]
    exact absurd j3.1 (by rw [it32_over rfl]; simp [b32])
  | 1, _ =>
    rw [h1Sn32pd]
    exact pcDen_append (pcDen_append base (pcDen_nil _)) hold
end Go.Proofs.Ytlmenjenkpnacaa
end

section
namespace Go.Proofs.Ytlmenjenkpnacaa
open Go Go.Sy Go.RowKit

def ouSn32pd : List CLeaf := [
  ⟨false, (.sl (n32 + 6) (.lit 0) qLwSn32pd0 (.var (n32 + 6))), (((.gb 0 (.app 76 (.var (n32 + 6)) (.app 81 (.var 1) (.var 0) (.add (.var 7) (.lit 1)) (.lit 0) (.lit 0) (.lit 0) (.cons (.var 0) (.cons (.var 1) (.cons (.lit 1) (.cons (.var 3) (.cons (.lit 1) (.cons (.lit 0) (.cons (.lit 1) (.cons (.lit 2) (.cons (.lit 0) .nil)))))))))) (.lit 0) (.lit 0) (.lit 0) (.lit 0) .nil) (.lit 0) (.lit 0)), true) :: ((.eq qLwSn32pd0 (.add (.var 7) (.lit 1))), true) :: tLwSn32pd1), [(1, (.tab 10 (.var 1) [some .u64, none] (.var 8) (.var 7))), ((n32 + 6), (.res (.app 78 (.var (n32 + 6)) (.var 0) (.lit 121) (.lit 10) (.var (n32 + 6)) (.lit 0) qLwSn32pd3)))]⟩]
theorem oSt_okSn32pd : OOK Try.prog (oSt Try.prog) inM := pruned_ok pr (opLoadSt_ok (opAppS_ok (opLoadS_ok (opAppendW_ok (opSliceT_ok qO_ok)))))
def oSn32pd (P : Program) : Orac := (oSt P).withLoopF f32S 3 n32 (e32 P true true).fr (e32 P true true).hp (mkM n32 (g32 P true true) (bd32 P true true))
theorem runSn32pd : runX Try.prog (oSn32pd Try.prog) f32S (t32 true true).args (t32 true true).pc (t32 true true).hp = some ouSn32pd := by kernel_rfl
attribute [local irreducible] nmAt
/-- behind one more round -/
theorem goSn32pd {ν : Env Gh} (hI : ν.I = inM) (h : pcDen ν pcSn32pd) {i : Int} (i0 : 0 ≤ i) (i1 : i ≤ ν.i 7) {k : Nat} (hk : k < 2) {y : Vals Gh} {g : Tgt} (hg : (heads32 Try.prog true true)[k]? = some g) (y0 : y.i 0 = i + 1)
    (yG : nG (y.g 6) = (se32 (ν.i 0) (ν.i 1) true (b32 true true ν) (ν.g 1).t (i + 1).toNat).map SC.nums)
    (yS : match k with
      | 0 => live32 (if i < ν.i 7 then A32.step true (it32 true (b32 true true ν) (ν.g 1).t i.toNat) (tolds (ν.g 1).t i.toNat).1 (tolds (ν.g 1).t i.toNat).2 else it32 true (b32 true true ν) (ν.g 1).t i.toNat) (y.i 1) (y.i 2) (cond true (ν.i 3) (y.i 3))
      | _ => over32 (if i < ν.i 7 then A32.step true (it32 true (b32 true true ν) (ν.g 1).t i.toNat) (tolds (ν.g 1).t i.toNat).1 (tolds (ν.g 1).t i.toNat).2 else it32 true (b32 true true ν) (ν.g 1).t i.toNat) (y.i 4) (y.i 5)) {bnd : Nat} (hm : (ν.i 7 + 1 - y.i 0).toNat < bnd) {Ow : Prop} (ho : Ow) :
    J32 true true k ν y ∧ pcDen (ν.at n32 y) g.pc ∧ (ν.i 7 + 1 - y.i 0).toNat < bnd ∧ Ow := by
  have hJ : J32 true true k ν y := by
    refine ⟨by omega, by omega, by rw [y0]; exact yG, ?_⟩
    match k, hk with
    | 0, _ => rw [y0, it32_next _ _ _ i0 i1]; exact yS
    | 1, _ => rw [y0, it32_next _ _ _ i0 i1]; exact yS
  refine ⟨hJ, ?_, hm, ho⟩
  have e : g = hd32 Try.prog true true k := by unfold hd32 hdAt; rw [hg]; rfl
  rw [e]
  exact hpdSn32pd hI h hk hJ
theorem owSn32pd {ν ν2 : Env Gh} (hI : ν.I = inM) (hI2 : ν2.I = inM) {y : Vals Gh} {g h : SG} {e w c d a b : SI} {ks : SL} (hw : w.den ν2 = 10) (hG : nG (y.g 6) = nG (g.den ν2)) : (SI.gi 17 (.app 78 g h e w c d ks) a b).den ν2 = (rowsS (stN (n32 + 6))).den (ν.at n32 y) := by
  rw [rowsSn32pd hI, gi17 hI2, hw, hG]; rfl
/-- behind the last round -/
theorem exitSn32pd {ν ν2 : Env Gh} (hI : ν.I = inM) (hI2 : ν2.I = inM) (h : pcDen ν pcSn32pd) (F0 : 0 ≤ ν.i 7) {x y : Vals Gh} (hi : ν.i 7 < x.i 0) (j0 : 1 ≤ x.i 0) (j1 : x.i 0 ≤ ν.i 7 + 1) (j2 : nG (x.g 6) = (se32 (ν.i 0) (ν.i 1) true (b32 true true ν) (ν.g 1).t (x.i 0).toNat).map SC.nums) (hy : y.g 6 = x.g 6) :
    pcDen (ν.at n32 y) [(seen32B (n32 + 6) (beg32 true true), true), (.eq (rowsS (stN (n32 + 6))) (.add (.var 7) (.lit 1)), true)] := by
  have rf : RF n32 ν y (ν.at n32 y) := RF.self rfl
  have e : x.i 0 = ν.i 7 + 1 := by omega
  have hl : (nG (y.g 6)).length = (x.i 0).toNat * 10 := by rw [hy, j2, List.length_map, se32_len]
  refine pcDen_cons ?_ (pcDen_one ?_)
  · have h2 : ((beg32 true true).den (ν.at n32 y)) = (beg32 true true).den ν := by
      simp [beg32, SL.den, SI.den, rf.io 0 (by decide), rf.io 1 (by decide), rf.io 3 (by decide)]
    have hI3 := rf.I.trans hI
    simp only [seen32B, SB.den, SG.den, SI.den, hI3, inM, xga, SL.den]
    show (nG ((ν.at n32 y).g (n32 + 6)) == List.map SC.nums (seen32 ((beg32 true true).den (ν.at n32 y)) ((ν.at n32 y).g 1).t ((ν.at n32 y).i 7 + 1).toNat)) = true
    rw [h2, se32_eq, rf.g 6 (by decide), rf.go 1 (by decide), rf.io 7 (by decide), hy, j2, e]
    exact beq_self_eq_true _
  · simp only [SB.den, beq_iff_eq]
    rw [rowsSn32pd hI, hl]
    simp only [SI.den, rf.io 7 (by decide)]
    omega
theorem loopSn32pd {O' : Orac} (oo' : OOK Try.prog O' inM) : OOK Try.prog (O'.withLoop f32S 3 n32 (e32 Try.prog true true).fr (e32 Try.prog true true).hp (mkM n32 (g32 Try.prog true true) (bd32 Try.prog true true))) inM := by
  have hb : ∀ {ν : Env Gh}, (∀ x ∈ bd32 Try.prog true true, x.1.den ν ≠ x.2) → pcDen ν pcSn32pd := fun h => by unfold bd32 at h; rw [pcSn32pd_eq] at h; exact bads_of h
  refine loopF_ok pr oSt_okSn32pd (rfl : n32 = nmAt 3) (by decide +kernel) oneSn32pd (heads := heads32 Try.prog true true) (tg := g32 Try.prog true true) (sums := [[([], sumsASn32pd)], [([], sumsBSn32pd)]]) (sums0 := sums0Sn32pd) (n := 6000) (it := 0) (ghL []) rfl ?_ b0Sn32pd (J32 true true) (fun _ ν x => (ν.i 7 + 1 - x.i 0).toNat) (fun ν => (ν.i 7 + 1).toNat) ?_ ?_ ?_ oo'
  · intro i h ss hh hs c hc
    match i, hh, hs with
    | 0, hh, hs =>
      cases hs
      simp only [List.mem_singleton] at hc
      subst hc
      have e : h = hd32 Try.prog true true 0 := by unfold hd32 hdAt; rw [hh]; rfl
      subst e
      exact bASn32pd
    | 1, hh, hs =>
      cases hs
      simp only [List.mem_singleton] at hc
      subst hc
      have e : h = hd32 Try.prog true true 1 := by unfold hd32 hdAt; rw [hh]; rfl
      subst e
      exact bBSn32pd
    | n + 2, hh, hs => cases hs
  · intro t ht ν ν2 hI h rf hpc
    have hp' := hb h
    have F := factsSn32pd hI hp'
    have F_len0 := F.len0
    have F_len1 := F.len1
    have F_v0 := F.v0
    have F_v1 := F.v1
    have F0 := F.len0
    have F1 := F.len1
    have hI2 : ν2.I = inM := rf.I.trans hI
    have qa : ν2.i 0 = ν.i 0 := rf.io 0 (by decide)
    have qn : ν2.i 1 = ν.i 1 := rf.io 1 (by decide)
    have qc : ν2.i 3 = ν.i 3 := rf.io 3 (by decide)
    have q7 : ν2.i 7 = ν.i 7 := rf.io 7 (by decide)
    have qg : ν2.g 1 = ν.g 1 := rf.go 1 (by decide)
    have T0 := F.told 0
    have hs : it32 true (b32 true true ν) (ν.g 1).t (0 : Int).toNat = b32 true true ν := rfl
    have eT : ((0 : Int) + 1).toNat = (0 : Int).toNat + 1 := rfl
    simp only [sums0Sn32pd, qLwSn32pd0, tLwSn32pd1, qLwSn32pd3, qLwSn32pd6, List.mem_cons, List.not_mem_nil, or_false] at ht
    rcases ht with rfl | rfl
    all_goals
      intro g hg
      dsimp only at hg ⊢
      simp only [pcDen_cons_iff, pcDen_nil_iff, SB.den, decide_eq_true_eq, decide_eq_false_iff_not, beq_iff_eq, beq_eq_false_iff_ne] at hpc
      simp only [SI.den, SG.den, gi10u hI2, gb11u hI2, q7, qn, qa, qg, Int.toNat_zero] at hpc
      generalize hy : Mt.vals _ (ghL []) ν2 = y
      have y0 : y.i 0 = 0 + 1 := by rw [← hy]; simp only [Mt.vals, lkp_cons, lkp_nil, Nat.reduceEqDiff, reduceIte, SI.den]; rfl
      have yG : nG (y.g 6) = (se32 (ν.i 0) (ν.i 1) true (b32 true true ν) (ν.g 1).t ((0 : Int) + 1).toNat).map SC.nums := by
        rw [eT, se32_succ, List.map_append, hs, ← hy]
        simp only [Mt.vals, lkp_cons, lkp_nil, Nat.reduceEqDiff, reduceIte]
        simp [nG73 hI2, nG1 hI2, SI.den, SL.den, b32, A32.obs, seenC, cI, cU, cB, cN, cL, SC.nums, se32, seenR_zero, qa, qn, qc]
      refine goSn32pd hI hp' (Int.le_refl 0) F0 (by decide) hg y0 yG ?_ (by omega) ?_
      · simp only [hs]
        simp only [← hy, Mt.vals, lkp_cons, lkp_nil, Nat.reduceEqDiff, reduceIte, SI.den, SG.den, gi10u hI2, qg, qc, Int.toNat_zero, cond]
        (first | rw [if_pos (by omega)] | rw [if_neg (by omega)])
        first
          | (simp [live32, over32, b32, A32.step, A32.fin]; done)
          | (simp [live32, over32, b32, A32.step, A32.fin] <;> omega)
      constructor
      · intro z hz
        simp only [List.mem_cons, List.not_mem_nil, or_false] at hz
        subst hz
        exact owSn32pd hI hI2 (by simp only [SI.den]) (by rw [← hy]; simp only [Mt.vals, lkp_cons, lkp_nil, Nat.reduceEqDiff, reduceIte])
      · simp
      · simp
      · simp
  · intro i h ss hh hs ν x _ _ _ _
    match i, hs with
    | 0, hs => cases hs; exact ⟨_, List.mem_singleton.2 rfl, pcDen_nil _⟩
    | 1, hs => cases hs; exact ⟨_, List.mem_singleton.2 rfl, pcDen_nil _⟩
    | n + 2, hs => cases hs
  · intro i h ss hh hs c hc t ht ν x ν2 hI hbad hJ hpch _ rf hpc
    have hp' := hb hbad
    have F := factsSn32pd hI hp'
    have F_len0 := F.len0
    have F_len1 := F.len1
    have F_v0 := F.v0
    have F_v1 := F.v1
    have F0 := F.len0
    have F1 := F.len1
    have hI2 : ν2.I = inM := rf.I.trans hI
    have qa : ν2.i 0 = ν.i 0 := rf.io 0 (by decide)
    have qn : ν2.i 1 = ν.i 1 := rf.io 1 (by decide)
    have qc : ν2.i 3 = ν.i 3 := rf.io 3 (by decide)
    have q7 : ν2.i 7 = ν.i 7 := rf.io 7 (by decide)
    have qg : ν2.g 1 = ν.g 1 := rf.go 1 (by decide)
    have q0 : ν2.i (n32 + 0) = x.i 0 := rf.i 0 (by decide)
    have q1 : ν2.i (n32 + 1) = x.i 1 := rf.i 1 (by decide)
    have q2 : ν2.i (n32 + 2) = x.i 2 := rf.i 2 (by decide)
    have q3 : ν2.i (n32 + 3) = x.i 3 := rf.i 3 (by decide)
    have q4 : ν2.i (n32 + 4) = x.i 4 := rf.i 4 (by decide)
    have q5 : ν2.i (n32 + 5) = x.i 5 := rf.i 5 (by decide)
    have qG : ν2.g (n32 + 6) = x.g 6 := rf.g 6 (by decide)
    obtain ⟨j0, j1, j2, j3⟩ := hJ
    have T0 := F.told (x.i 0).toNat
    have eT : (x.i 0 + 1).toNat = (x.i 0).toNat + 1 := by omega
    match i, hh, hs with
    | 0, hh, hs =>
      cases hs
      simp only [List.mem_singleton] at hc
      subst hc
      exfalso
      have := j3.1
      rw [it32_over rfl] at this
      simp [b32] at this
    | 1, hh, hs =>
      cases hs
      simp only [List.mem_singleton] at hc
      subst hc
      simp only [sumsBSn32pd, qLwSn32pd0, tLwSn32pd1, qLwSn32pd3, qLwSn32pd8, List.mem_cons, List.not_mem_nil, or_false] at ht
      rcases ht with rfl | rfl | rfl
      all_goals
        simp only [pcDen_cons_iff, pcDen_nil_iff, SB.den, decide_eq_true_eq, decide_eq_false_iff_not, beq_iff_eq, beq_eq_false_iff_ne] at hpc
        simp only [SI.den, SG.den, gi10u hI2, gb11u hI2, q7, qn, qa, qg, q0] at hpc
      rotate_left 2
      · generalize hy : Mt.vals _ (ghL []) ν2 = y
        have y6 : y.g 6 = x.g 6 := by rw [← hy]; simp only [Mt.vals, lkp_cons, lkp_nil, Nat.reduceEqDiff, reduceIte, SG.den, qG]
        refine ⟨fun g hg => ?_, ?_⟩
        · cases hg
          exact exitSn32pd hI hI2 hp' F0 (by omega) j0 j1 j2 y6
        constructor
        · intro z hz
          simp only [List.mem_cons, List.not_mem_nil, or_false] at hz
          subst hz
          exact owSn32pd hI hI2 (by simp only [SI.den]) (by rw [y6]; simp only [SG.den, qG])
        · simp
        · simp
        · simp
      all_goals
        intro g hg
        dsimp only at hg ⊢
        have hle : x.i 0 ≤ ν.i 7 := by omega
        have em : (min (x.i 0) (ν.i 7)).toNat = (x.i 0).toNat := by omega
        rw [em] at j3
        generalize hS : it32 true (b32 true true ν) (ν.g 1).t (x.i 0).toNat = S at j3
        obtain ⟨st, nn, task, dn', cd, v⟩ := S
        obtain ⟨rfl, rfl, rfl⟩ := j3
        generalize hy : Mt.vals _ (ghL []) ν2 = y
        have y0 : y.i 0 = x.i 0 + 1 := by rw [← hy]; simp only [Mt.vals, lkp_cons, lkp_nil, Nat.reduceEqDiff, reduceIte, SI.den, q0]
        have yG : nG (y.g 6) = (se32 (ν.i 0) (ν.i 1) true (b32 true true ν) (ν.g 1).t (x.i 0 + 1).toNat).map SC.nums := by
          rw [eT, se32_succ, List.map_append, ← j2, hS, ← hy]
          simp only [Mt.vals, lkp_cons, lkp_nil, Nat.reduceEqDiff, reduceIte]
          simp only [nG73 hI2]
          simp [SI.den, SL.den, SG.den, A32.obs, seenC, cI, cU, cB, cN, cL, SC.nums, qG, q4, q5]
        refine goSn32pd hI hp' (by omega) hle (by decide) hg y0 yG ?_ (by omega) ?_
        · simp only [hS]
          simp only [← hy, Mt.vals, lkp_cons, lkp_nil, Nat.reduceEqDiff, reduceIte, SI.den, q4, q5]
          (first | rw [if_pos (by omega)] | rw [if_neg (by omega)])
          simp [over32, A32.step]
        constructor
        · intro z hz
          simp only [List.mem_cons, List.not_mem_nil, or_false] at hz
          subst hz
          exact owSn32pd hI hI2 (by simp only [SI.den]) (by rw [← hy]; simp only [Mt.vals, lkp_cons, lkp_nil, Nat.reduceEqDiff, reduceIte])
        · simp
        · simp
        · simp
    | n + 2, hh, hs => cases hs
theorem oSn32pd_ok : OOK Try.prog (oSn32pd Try.prog) inM := withLoopF_ok oSt_okSn32pd (loopSn32pd oSt_okSn32pd)
end Go.Proofs.Ytlmenjenkpnacaa
end
