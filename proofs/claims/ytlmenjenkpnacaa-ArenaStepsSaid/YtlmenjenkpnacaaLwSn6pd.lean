/- What is seen of the document's arena, step by step (a Put, refused). (Printed by sn6.py.) -/
import Derived.Test.YtlmenjenkpnacaaLwXA
import Derived.Test.YtlmenjenkpnacaaLwXV
import Derived.Test.YtlmenjenkpnacaaLwXS
set_option linter.unusedVariables false
set_option linter.unusedSimpArgs false

section
namespace Go.Proofs.Ytlmenjenkpnacaa
open Go Go.Sy Go.RowKit

def zLwSn6pd0 : Nat := 5260135901548373507240989912806434948320061019614659372438935124170494381229535744882347198006576527136876520690865454719531996656666962103829106354085710405824947191608585901821569868969565883402979936554713088
def qLwSn6pd6 : SL := (.cons (.lit 3) (.cons (.lit 3) (.cons (.lit 7) (.cons (.lit 7) (.cons (.lit 8) (.cons (.lit 3) (.cons (.lit 7) (.cons (.lit 10) (.cons (.lit 8) (.cons (.lit 10) .nil))))))))))
def qLwSn6pd0 : SI := (.gi 17 (.app 78 (.var (nSn + 6)) (.var 0) (.lit 121) (.lit 10) (.var (nSn + 6)) (.lit 0) qLwSn6pd6) (.lit 0) (.lit 0))
def qLwSn6pd1 : SG := (.app 73 (.app 73 (.app 73 (.app 73 (.app 73 (.app 73 (.app 73 (.app 73 (.app 73 (.app 73 (.var (nSn + 6)) (.var zLwSn6pd0) (.lit 3) (.lit 3) (.lit 0) (.lit 0) .nil) (.var zLwSn6pd0) (.lit 3) (.var 0) (.lit 1) (.lit 0) .nil) (.var zLwSn6pd0) (.lit 7) (.var (nSn + 2)) (.lit 2) (.lit 0) .nil) (.var zLwSn6pd0) (.lit 7) (.wrap .u64 (.add (.wrap .u64 (.mul (.wrap .u32 (.add (.wrap .u32 (.wrap .u64 (.tdiv (.var (nSn + 2)) (.lit 4294967296)))) (.lit 1))) (.lit 4294967296))) (.wrap .u32 (.var 3)))) (.lit 3) (.lit 0) .nil) (.var zLwSn6pd0) (.lit 8) (.lit 1) (.lit 4) (.lit 0) .nil) (.var zLwSn6pd0) (.lit 3) (.lit 0) (.lit 5) (.lit 0) .nil) (.var zLwSn6pd0) (.lit 7) (.lit 0) (.lit 6) (.lit 0) .nil) (.var zLwSn6pd0) (.lit 9) (.lit 0) (.lit 7) (.lit 0) .nil) (.var zLwSn6pd0) (.lit 8) (.lit 0) (.lit 8) (.lit 0) .nil) (.var zLwSn6pd0) (.lit 10) (.lit 0) (.lit 9) (.lit 0) .nil)
def qLwSn6pd2 : SG := (.app 73 (.app 73 (.app 73 (.app 73 (.app 73 (.app 73 (.app 73 (.app 73 (.app 73 (.app 73 (.var (nSn + 6)) (.var zLwSn6pd0) (.lit 3) (.lit 2) (.lit 0) (.lit 0) .nil) (.var zLwSn6pd0) (.lit 3) (.wrap .i64 (.add (.var 0) (.var 3))) (.lit 1) (.lit 0) .nil) (.var zLwSn6pd0) (.lit 7) (.tmod (.var (nSn + 2)) (.lit 4294967296)) (.lit 2) (.lit 0) .nil) (.var zLwSn6pd0) (.lit 7) (.lit 0) (.lit 3) (.lit 0) .nil) (.var zLwSn6pd0) (.lit 8) (.lit 1) (.lit 4) (.lit 0) .nil) (.var zLwSn6pd0) (.lit 3) (.lit 0) (.lit 5) (.lit 0) .nil) (.var zLwSn6pd0) (.lit 7) (.lit 0) (.lit 6) (.lit 0) .nil) (.var zLwSn6pd0) (.lit 9) (.lit 0) (.lit 7) (.lit 0) .nil) (.var zLwSn6pd0) (.lit 8) (.lit 0) (.lit 8) (.lit 0) .nil) (.var zLwSn6pd0) (.lit 10) (.lit 0) (.lit 9) (.lit 0) .nil)
def qLwSn6pd3 : SG := (.app 73 (.app 73 (.app 73 (.app 73 (.app 73 (.app 73 (.app 73 (.app 73 (.app 73 (.app 73 (.app 1 (.var 0) (.var 0) (.lit 0) (.lit 0) (.lit 0) (.lit 0) .nil) (.var zLwSn6pd0) (.lit 3) (.lit 0) (.lit 0) (.lit 0) .nil) (.var zLwSn6pd0) (.lit 3) (.lit 0) (.lit 1) (.lit 0) .nil) (.var zLwSn6pd0) (.lit 7) (.lit 0) (.lit 2) (.lit 0) .nil) (.var zLwSn6pd0) (.lit 7) (.lit 0) (.lit 3) (.lit 0) .nil) (.var zLwSn6pd0) (.lit 8) (.lit 0) (.lit 4) (.lit 0) .nil) (.var zLwSn6pd0) (.lit 3) (.lit 2) (.lit 5) (.lit 0) .nil) (.var zLwSn6pd0) (.lit 7) (.lit 0) (.lit 6) (.lit 0) .nil) (.var zLwSn6pd0) (.lit 9) (.lit 0) (.lit 7) (.lit 0) .nil) (.var zLwSn6pd0) (.lit 8) (.lit 1) (.lit 8) (.lit 0) .nil) (.var zLwSn6pd0) (.lit 10) (.lit 0) (.lit 9) (.lit 0) .nil)
def qLwSn6pd4 : SG := (.app 73 (.app 73 (.app 73 (.app 73 (.app 73 (.app 73 (.app 73 (.app 73 (.app 73 (.app 73 (.var (nSn + 6)) (.var zLwSn6pd0) (.lit 3) (.lit 0) (.lit 0) (.lit 0) .nil) (.var zLwSn6pd0) (.lit 3) (.lit 0) (.lit 1) (.lit 0) .nil) (.var zLwSn6pd0) (.lit 7) (.lit 0) (.lit 2) (.lit 0) .nil) (.var zLwSn6pd0) (.lit 7) (.lit 0) (.lit 3) (.lit 0) .nil) (.var zLwSn6pd0) (.lit 8) (.lit 0) (.lit 4) (.lit 0) .nil) (.var zLwSn6pd0) (.lit 3) (.var (nSn + 4)) (.lit 5) (.lit 0) .nil) (.var zLwSn6pd0) (.lit 7) (.var (nSn + 5)) (.lit 6) (.lit 0) .nil) (.var zLwSn6pd0) (.lit 9) (.lit 0) (.lit 7) (.lit 0) .nil) (.var zLwSn6pd0) (.lit 8) (.lit 1) (.lit 8) (.lit 0) .nil) (.var zLwSn6pd0) (.lit 10) (.lit 0) (.lit 9) (.lit 0) .nil)
def qLwSn6pd5 : SG := (.app 73 (.app 73 (.app 73 (.app 73 (.app 73 (.app 73 (.app 73 (.app 73 (.app 73 (.app 73 (.var (nSn + 6)) (.var zLwSn6pd0) (.lit 3) (.lit 1) (.lit 0) (.lit 0) .nil) (.var zLwSn6pd0) (.lit 3) (.var 0) (.lit 1) (.lit 0) .nil) (.var zLwSn6pd0) (.lit 7) (.lit 0) (.lit 2) (.lit 0) .nil) (.var zLwSn6pd0) (.lit 7) (.lit 0) (.lit 3) (.lit 0) .nil) (.var zLwSn6pd0) (.lit 8) (.lit 1) (.lit 4) (.lit 0) .nil) (.var zLwSn6pd0) (.lit 3) (.lit 0) (.lit 5) (.lit 0) .nil) (.var zLwSn6pd0) (.lit 7) (.lit 0) (.lit 6) (.lit 0) .nil) (.var zLwSn6pd0) (.lit 9) (.lit 0) (.lit 7) (.lit 0) .nil) (.var zLwSn6pd0) (.lit 8) (.lit 0) (.lit 8) (.lit 0) .nil) (.var zLwSn6pd0) (.lit 10) (.lit 0) (.lit 9) (.lit 0) .nil)
def pcSn6pd : PC := [((.lt (.var 7) (.lit 0)), false), ((.lt (.lit 200) (.var 7)), false), ((.lt (.var 8) (.lit 0)), false), ((.gb 0 (.app 83 (.var 1) (.var 0) (.lit 0) (.lit 0) (.lit 0) (.lit 0) .nil) (.lit 0) (.lit 0)), true)]
def sums0Sn6pd : List SumT := [
  ⟨.normal, 1, ⟨[((nSn + 6), zLwSn6pd0)], [(5, (.lit 0)), (4, (.lit 2)), (3, (.lit 0)), (2, (.lit 0)), (1, (.lit 1)), (0, (.lit 1)), (6, (.var zLwSn6pd0))], [], [(6, qLwSn6pd3)], [((.gi 17 (.app 78 qLwSn6pd3 (.var 0) (.lit 121) (.lit 10) (.var zLwSn6pd0) (.lit 0) qLwSn6pd6) (.lit 0) (.lit 0)), qLwSn6pd0)], [], [], []⟩, [((.lt (.var 7) (.lit 1)), false), ((.lt (.var 7) (.lit 0)), false), ((.lt (.lit 200) (.var 7)), false), ((.lt (.var 8) (.lit 0)), false), ((.gb 0 (.app 83 (.var 1) (.var 0) (.lit 0) (.lit 0) (.lit 0) (.lit 0) .nil) (.lit 0) (.lit 0)), true)]⟩,
  ⟨.normal, 1, ⟨[((nSn + 6), zLwSn6pd0)], [(5, (.lit 0)), (4, (.lit 2)), (3, (.lit 0)), (2, (.lit 0)), (1, (.lit 1)), (0, (.lit 1)), (6, (.var zLwSn6pd0))], [], [(6, qLwSn6pd3)], [((.gi 17 (.app 78 qLwSn6pd3 (.var 0) (.lit 121) (.lit 10) (.var zLwSn6pd0) (.lit 0) qLwSn6pd6) (.lit 0) (.lit 0)), qLwSn6pd0)], [], [], []⟩, [((.lt (.var 7) (.lit 1)), true), ((.lt (.var 7) (.lit 0)), false), ((.lt (.lit 200) (.var 7)), false), ((.lt (.var 8) (.lit 0)), false), ((.gb 0 (.app 83 (.var 1) (.var 0) (.lit 0) (.lit 0) (.lit 0) (.lit 0) .nil) (.lit 0) (.lit 0)), true)]⟩]
def sumsASn6pd : List SumT := [
  ⟨.normal, 0, ⟨[((nSn + 6), zLwSn6pd0)], [(3, (.var (nSn + 3))), (2, (.gi 10 (.var 1) (.var (nSn + 0)) (.lit 0))), (1, (.lit 2)), (0, (.add (.var (nSn + 0)) (.lit 1))), (6, (.var zLwSn6pd0))], [], [(6, qLwSn6pd5)], [((.gi 17 (.app 78 qLwSn6pd5 (.var 0) (.lit 121) (.lit 10) (.var zLwSn6pd0) (.lit 0) qLwSn6pd6) (.lit 0) (.lit 0)), qLwSn6pd0)], [], [], []⟩, [((.lt (.var (nSn + 0)) (.var 7)), true), ((.eq (.var (nSn + 1)) (.lit 1)), true), ((.lt (.var 7) (.var (nSn + 0))), false), ((.lt (.var (nSn + 0)) (.lit 0)), false), ((.lt (.add (.var 7) (.lit 1)) (.var (nSn + 0))), false), ((.lt (.lit 201) qLwSn6pd0), false), ((.lt (.var (nSn + 2)) (.lit 0)), false), ((.lt (.var (nSn + 2)) (.lit 18446744073709551616)), true), ((.lt (.var (nSn + 3)) (.lit 0)), false), ((.lt (.var (nSn + 3)) (.lit 18446744073709551616)), true), ((.lit false), true), ((.lt (.var 7) (.lit 0)), false), ((.lt (.lit 200) (.var 7)), false), ((.lt (.var 8) (.lit 0)), false), ((.gb 0 (.app 83 (.var 1) (.var 0) (.lit 0) (.lit 0) (.lit 0) (.lit 0) .nil) (.lit 0) (.lit 0)), true)]⟩,
  ⟨.normal, 0, ⟨[((nSn + 6), zLwSn6pd0)], [(3, (.var (nSn + 3))), (2, (.var (nSn + 2))), (1, (.var (nSn + 1))), (0, (.add (.var (nSn + 0)) (.lit 1))), (6, (.var zLwSn6pd0))], [], [(6, qLwSn6pd5)], [((.gi 17 (.app 78 qLwSn6pd5 (.var 0) (.lit 121) (.lit 10) (.var zLwSn6pd0) (.lit 0) qLwSn6pd6) (.lit 0) (.lit 0)), qLwSn6pd0)], [], [], []⟩, [((.lt (.var (nSn + 0)) (.var 7)), false), ((.eq (.var (nSn + 1)) (.lit 1)), true), ((.lt (.var 7) (.var (nSn + 0))), false), ((.lt (.var (nSn + 0)) (.lit 0)), false), ((.lt (.add (.var 7) (.lit 1)) (.var (nSn + 0))), false), ((.lt (.lit 201) qLwSn6pd0), false), ((.lt (.var (nSn + 2)) (.lit 0)), false), ((.lt (.var (nSn + 2)) (.lit 18446744073709551616)), true), ((.lt (.var (nSn + 3)) (.lit 0)), false), ((.lt (.var (nSn + 3)) (.lit 18446744073709551616)), true), ((.lit false), true), ((.lt (.var 7) (.lit 0)), false), ((.lt (.lit 200) (.var 7)), false), ((.lt (.var 8) (.lit 0)), false), ((.gb 0 (.app 83 (.var 1) (.var 0) (.lit 0) (.lit 0) (.lit 0) (.lit 0) .nil) (.lit 0) (.lit 0)), true)]⟩,
  ⟨.normal, 0, ⟨[((nSn + 6), zLwSn6pd0)], [(3, (.gi 10 (.var 1) (.var (nSn + 0)) (.lit 0))), (2, (.var (nSn + 2))), (1, (.lit 3)), (0, (.add (.var (nSn + 0)) (.lit 1))), (6, (.var zLwSn6pd0))], [], [(6, qLwSn6pd2)], [((.gi 17 (.app 78 qLwSn6pd2 (.var 0) (.lit 121) (.lit 10) (.var zLwSn6pd0) (.lit 0) qLwSn6pd6) (.lit 0) (.lit 0)), qLwSn6pd0)], [], [], []⟩, [((.lt (.var (nSn + 0)) (.var 7)), true), ((.eq (.var (nSn + 1)) (.lit 2)), true), ((.eq (.var (nSn + 1)) (.lit 1)), false), ((.lt (.var 7) (.var (nSn + 0))), false), ((.lt (.var (nSn + 0)) (.lit 0)), false), ((.lt (.add (.var 7) (.lit 1)) (.var (nSn + 0))), false), ((.lt (.lit 201) qLwSn6pd0), false), ((.lt (.var (nSn + 2)) (.lit 0)), false), ((.lt (.var (nSn + 2)) (.lit 18446744073709551616)), true), ((.lt (.var (nSn + 3)) (.lit 0)), false), ((.lt (.var (nSn + 3)) (.lit 18446744073709551616)), true), ((.lit false), true), ((.lt (.var 7) (.lit 0)), false), ((.lt (.lit 200) (.var 7)), false), ((.lt (.var 8) (.lit 0)), false), ((.gb 0 (.app 83 (.var 1) (.var 0) (.lit 0) (.lit 0) (.lit 0) (.lit 0) .nil) (.lit 0) (.lit 0)), true)]⟩,
  ⟨.normal, 0, ⟨[((nSn + 6), zLwSn6pd0)], [(3, (.var (nSn + 3))), (2, (.var (nSn + 2))), (1, (.var (nSn + 1))), (0, (.add (.var (nSn + 0)) (.lit 1))), (6, (.var zLwSn6pd0))], [], [(6, qLwSn6pd2)], [((.gi 17 (.app 78 qLwSn6pd2 (.var 0) (.lit 121) (.lit 10) (.var zLwSn6pd0) (.lit 0) qLwSn6pd6) (.lit 0) (.lit 0)), qLwSn6pd0)], [], [], []⟩, [((.lt (.var (nSn + 0)) (.var 7)), false), ((.eq (.var (nSn + 1)) (.lit 2)), true), ((.eq (.var (nSn + 1)) (.lit 1)), false), ((.lt (.var 7) (.var (nSn + 0))), false), ((.lt (.var (nSn + 0)) (.lit 0)), false), ((.lt (.add (.var 7) (.lit 1)) (.var (nSn + 0))), false), ((.lt (.lit 201) qLwSn6pd0), false), ((.lt (.var (nSn + 2)) (.lit 0)), false), ((.lt (.var (nSn + 2)) (.lit 18446744073709551616)), true), ((.lt (.var (nSn + 3)) (.lit 0)), false), ((.lt (.var (nSn + 3)) (.lit 18446744073709551616)), true), ((.lit false), true), ((.lt (.var 7) (.lit 0)), false), ((.lt (.lit 200) (.var 7)), false), ((.lt (.var 8) (.lit 0)), false), ((.gb 0 (.app 83 (.var 1) (.var 0) (.lit 0) (.lit 0) (.lit 0) (.lit 0) .nil) (.lit 0) (.lit 0)), true)]⟩,
  ⟨.normal, 0, ⟨[((nSn + 6), zLwSn6pd0)], [(3, (.var (nSn + 3))), (2, (.gi 10 (.var 1) (.var (nSn + 0)) (.lit 0))), (1, (.lit 2)), (0, (.add (.var (nSn + 0)) (.lit 1))), (6, (.var zLwSn6pd0))], [], [(6, qLwSn6pd1)], [((.gi 17 (.app 78 qLwSn6pd1 (.var 0) (.lit 121) (.lit 10) (.var zLwSn6pd0) (.lit 0) qLwSn6pd6) (.lit 0) (.lit 0)), qLwSn6pd0)], [], [], []⟩, [((.gb 11 (.var 1) (.var (nSn + 0)) (.lit 0)), false), ((.lt (.var (nSn + 0)) (.var 7)), true), ((.eq (.var (nSn + 1)) (.lit 2)), false), ((.eq (.var (nSn + 1)) (.lit 1)), false), ((.lt (.var 7) (.var (nSn + 0))), false), ((.lt (.var (nSn + 0)) (.lit 0)), false), ((.lt (.add (.var 7) (.lit 1)) (.var (nSn + 0))), false), ((.lt (.lit 201) qLwSn6pd0), false), ((.lt (.var (nSn + 2)) (.lit 0)), false), ((.lt (.var (nSn + 2)) (.lit 18446744073709551616)), true), ((.lt (.var (nSn + 3)) (.lit 0)), false), ((.lt (.var (nSn + 3)) (.lit 18446744073709551616)), true), ((.lit false), true), ((.lt (.var 7) (.lit 0)), false), ((.lt (.lit 200) (.var 7)), false), ((.lt (.var 8) (.lit 0)), false), ((.gb 0 (.app 83 (.var 1) (.var 0) (.lit 0) (.lit 0) (.lit 0) (.lit 0) .nil) (.lit 0) (.lit 0)), true)]⟩,
  ⟨.normal, 1, ⟨[((nSn + 6), zLwSn6pd0)], [(5, (.lit 0)), (4, (.lit 0)), (3, (.var (nSn + 3))), (2, (.var (nSn + 2))), (1, (.var (nSn + 1))), (0, (.add (.var (nSn + 0)) (.lit 1))), (6, (.var zLwSn6pd0))], [], [(6, qLwSn6pd1)], [((.gi 17 (.app 78 qLwSn6pd1 (.var 0) (.lit 121) (.lit 10) (.var zLwSn6pd0) (.lit 0) qLwSn6pd6) (.lit 0) (.lit 0)), qLwSn6pd0)], [], [], []⟩, [((.gb 11 (.var 1) (.var (nSn + 0)) (.lit 0)), true), ((.lt (.var (nSn + 0)) (.var 7)), true), ((.eq (.var (nSn + 1)) (.lit 2)), false), ((.eq (.var (nSn + 1)) (.lit 1)), false), ((.lt (.var 7) (.var (nSn + 0))), false), ((.lt (.var (nSn + 0)) (.lit 0)), false), ((.lt (.add (.var 7) (.lit 1)) (.var (nSn + 0))), false), ((.lt (.lit 201) qLwSn6pd0), false), ((.lt (.var (nSn + 2)) (.lit 0)), false), ((.lt (.var (nSn + 2)) (.lit 18446744073709551616)), true), ((.lt (.var (nSn + 3)) (.lit 0)), false), ((.lt (.var (nSn + 3)) (.lit 18446744073709551616)), true), ((.lit false), true), ((.lt (.var 7) (.lit 0)), false), ((.lt (.lit 200) (.var 7)), false), ((.lt (.var 8) (.lit 0)), false), ((.gb 0 (.app 83 (.var 1) (.var 0) (.lit 0) (.lit 0) (.lit 0) (.lit 0) .nil) (.lit 0) (.lit 0)), true)]⟩,
  ⟨.normal, 0, ⟨[((nSn + 6), zLwSn6pd0)], [(3, (.var (nSn + 3))), (2, (.var (nSn + 2))), (1, (.var (nSn + 1))), (0, (.add (.var (nSn + 0)) (.lit 1))), (6, (.var zLwSn6pd0))], [], [(6, qLwSn6pd1)], [((.gi 17 (.app 78 qLwSn6pd1 (.var 0) (.lit 121) (.lit 10) (.var zLwSn6pd0) (.lit 0) qLwSn6pd6) (.lit 0) (.lit 0)), qLwSn6pd0)], [], [], []⟩, [((.lt (.var (nSn + 0)) (.var 7)), false), ((.eq (.var (nSn + 1)) (.lit 2)), false), ((.eq (.var (nSn + 1)) (.lit 1)), false), ((.lt (.var 7) (.var (nSn + 0))), false), ((.lt (.var (nSn + 0)) (.lit 0)), false), ((.lt (.add (.var 7) (.lit 1)) (.var (nSn + 0))), false), ((.lt (.lit 201) qLwSn6pd0), false), ((.lt (.var (nSn + 2)) (.lit 0)), false), ((.lt (.var (nSn + 2)) (.lit 18446744073709551616)), true), ((.lt (.var (nSn + 3)) (.lit 0)), false), ((.lt (.var (nSn + 3)) (.lit 18446744073709551616)), true), ((.lit false), true), ((.lt (.var 7) (.lit 0)), false), ((.lt (.lit 200) (.var 7)), false), ((.lt (.var 8) (.lit 0)), false), ((.gb 0 (.app 83 (.var 1) (.var 0) (.lit 0) (.lit 0) (.lit 0) (.lit 0) .nil) (.lit 0) (.lit 0)), true)]⟩,
  ⟨.exit 0, 0, ⟨[((nSn + 6), (nSn + 6))], [(6, (.var (nSn + 6)))], [], [(6, (.var (nSn + 6)))], [(qLwSn6pd0, qLwSn6pd0)], [], [], []⟩, [((.lt (.var 7) (.var (nSn + 0))), true), ((.lt (.var (nSn + 0)) (.lit 0)), false), ((.lt (.add (.var 7) (.lit 1)) (.var (nSn + 0))), false), ((.lt (.lit 201) qLwSn6pd0), false), ((.lt (.var (nSn + 2)) (.lit 0)), false), ((.lt (.var (nSn + 2)) (.lit 18446744073709551616)), true), ((.lt (.var (nSn + 3)) (.lit 0)), false), ((.lt (.var (nSn + 3)) (.lit 18446744073709551616)), true), ((.lit false), true), ((.lt (.var 7) (.lit 0)), false), ((.lt (.lit 200) (.var 7)), false), ((.lt (.var 8) (.lit 0)), false), ((.gb 0 (.app 83 (.var 1) (.var 0) (.lit 0) (.lit 0) (.lit 0) (.lit 0) .nil) (.lit 0) (.lit 0)), true)]⟩]
def sumsBSn6pd : List SumT := [
  ⟨.normal, 1, ⟨[((nSn + 6), zLwSn6pd0)], [(5, (.var (nSn + 5))), (4, (.var (nSn + 4))), (3, (.var (nSn + 3))), (2, (.var (nSn + 2))), (1, (.var (nSn + 1))), (0, (.add (.var (nSn + 0)) (.lit 1))), (6, (.var zLwSn6pd0))], [], [(6, qLwSn6pd4)], [((.gi 17 (.app 78 qLwSn6pd4 (.var 0) (.lit 121) (.lit 10) (.var zLwSn6pd0) (.lit 0) qLwSn6pd6) (.lit 0) (.lit 0)), qLwSn6pd0)], [], [], []⟩, [((.lt (.var (nSn + 0)) (.var 7)), true), ((.lt (.var 7) (.var (nSn + 0))), false), ((.lt (.var (nSn + 0)) (.lit 0)), false), ((.lt (.add (.var 7) (.lit 1)) (.var (nSn + 0))), false), ((.lt (.lit 201) qLwSn6pd0), false), ((.lt (.var 7) (.lit 0)), false), ((.lt (.lit 200) (.var 7)), false), ((.lt (.var 8) (.lit 0)), false), ((.gb 0 (.app 83 (.var 1) (.var 0) (.lit 0) (.lit 0) (.lit 0) (.lit 0) .nil) (.lit 0) (.lit 0)), true)]⟩,
  ⟨.normal, 1, ⟨[((nSn + 6), zLwSn6pd0)], [(5, (.var (nSn + 5))), (4, (.var (nSn + 4))), (3, (.var (nSn + 3))), (2, (.var (nSn + 2))), (1, (.var (nSn + 1))), (0, (.add (.var (nSn + 0)) (.lit 1))), (6, (.var zLwSn6pd0))], [], [(6, qLwSn6pd4)], [((.gi 17 (.app 78 qLwSn6pd4 (.var 0) (.lit 121) (.lit 10) (.var zLwSn6pd0) (.lit 0) qLwSn6pd6) (.lit 0) (.lit 0)), qLwSn6pd0)], [], [], []⟩, [((.lt (.var (nSn + 0)) (.var 7)), false), ((.lt (.var 7) (.var (nSn + 0))), false), ((.lt (.var (nSn + 0)) (.lit 0)), false), ((.lt (.add (.var 7) (.lit 1)) (.var (nSn + 0))), false), ((.lt (.lit 201) qLwSn6pd0), false), ((.lt (.var 7) (.lit 0)), false), ((.lt (.lit 200) (.var 7)), false), ((.lt (.var 8) (.lit 0)), false), ((.gb 0 (.app 83 (.var 1) (.var 0) (.lit 0) (.lit 0) (.lit 0) (.lit 0) .nil) (.lit 0) (.lit 0)), true)]⟩,
  ⟨.exit 0, 0, ⟨[((nSn + 6), (nSn + 6))], [(6, (.var (nSn + 6)))], [], [(6, (.var (nSn + 6)))], [(qLwSn6pd0, qLwSn6pd0)], [], [], []⟩, [((.lt (.var 7) (.var (nSn + 0))), true), ((.lt (.var (nSn + 0)) (.lit 0)), false), ((.lt (.add (.var 7) (.lit 1)) (.var (nSn + 0))), false), ((.lt (.lit 201) qLwSn6pd0), false), ((.lt (.var 7) (.lit 0)), false), ((.lt (.lit 200) (.var 7)), false), ((.lt (.var 8) (.lit 0)), false), ((.gb 0 (.app 83 (.var 1) (.var 0) (.lit 0) (.lit 0) (.lit 0) (.lit 0) .nil) (.lit 0) (.lit 0)), true)]⟩]
theorem pcSn6pd_eq : (eSn Try.prog true true).pc = pcSn6pd := by kernel_rfl
theorem avSn6pd : pav nSn (nSn + 64) pcSn6pd = true := by kernel_rfl
theorem b0Sn6pd : sums0Sn Try.prog true true = some sums0Sn6pd := by kernel_rfl
theorem bASn6pd : sumsSn Try.prog true true 0 = some sumsASn6pd := by kernel_rfl
theorem bBSn6pd : sumsSn Try.prog true true 1 = some sumsBSn6pd := by kernel_rfl
theorem oneSn6pd : (loopsAt Try.prog fSn 3).length = 1 := by kernel_rfl
def hpSn6pd (k : Nat) : PC := [(.lt (.var nSn) (.lit 0), false), (.lt (.add (.var 7) (.lit 1)) (.var nSn), false), (.lt (.lit 201) (rowsS (stN (nSn + 6))), false)] ++ (match k with | 0 => u64B (.var (nSn + 2)) ++ u64B (.var (nSn + 3)) ++ [(.lit false, true)] | _ => [])
theorem h0Sn6pd : (hdSn Try.prog true true 0).pc = hpSn6pd 0 ++ pcSn6pd := by kernel_rfl
theorem h1Sn6pd : (hdSn Try.prog true true 1).pc = hpSn6pd 1 ++ pcSn6pd := by kernel_rfl
structure FSn6pd (ν : Env Gh) : Prop where
  len0 : 0 ≤ ν.i 7
  len1 : ν.i 7 ≤ 200
  told : ∀ j, 0 ≤ (tolds (ν.g 1).t j).1 ∧ (tolds (ν.g 1).t j).1 < 18446744073709551616
theorem factsSn6pd {ν : Env Gh} (hI : ν.I = inM) (h : pcDen ν pcSn6pd) : FSn6pd ν := by
  have h2 := h
  simp only [pcSn6pd, pcDen_cons_iff, pcDen_nil_iff] at h2
  have h8 : (SB.gb 0 (.app 83 (.var 1) (.var 0) (.lit 0) (.lit 0) (.lit 0) (.lit 0) .nil) (.lit 0) (.lit 0)).den ν = true := pcAt h 3 rfl
  rw [x83 hI] at h8
  simp only [SB.den, decide_eq_true_eq, decide_eq_false_iff_not] at h2
  simp only [SI.den] at h2
  exact ⟨by omega, by omega, fun j => tolds_u64 h8 j⟩
attribute [local irreducible] nmAt
theorem rowsSn6pd {ν : Env Gh} {x : Vals Gh} (hI : ν.I = inM) : (rowsS (stN (nSn + 6))).den (ν.at nSn x) = (((nG (x.g 6)).length / 10 : Nat) : Int) := by
  have rf : RF nSn ν x (ν.at nSn x) := RF.self rfl
  unfold rowsS stN St.full stG
  rw [gi17 (rf.I.trans hI)]
  simp only [SG.den, SI.den, rf.g 6 (by decide)]
  rfl
theorem hpdSn6pd {ν : Env Gh} (hI : ν.I = inM) (h : pcDen ν pcSn6pd) {k : Nat} (hk : k < 2) {x : Vals Gh} (hJ : JSn true true k ν x) : pcDen (ν.at nSn x) (hdSn Try.prog true true k).pc := by
  have F := factsSn6pd hI h
  have rf : RF nSn ν x (ν.at nSn x) := RF.self rfl
  have r0 : (ν.at nSn x).i nSn = x.i 0 := rf.i 0 (by decide)
  have hold : pcDen (ν.at nSn x) pcSn6pd := pcDen_agree (at_agree (ρ := fun _ => 0) (ρ' := fun _ => 0) (fun _ _ => rfl)) avSn6pd h
  obtain ⟨j0, j1, j2, j3⟩ := hJ
  have hl : (nG (x.g 6)).length = (x.i 0).toNat * 10 := by rw [j2, List.length_map, se6_len]
  have F0 := F.len0
  have F1 := F.len1
  have base : pcDen (ν.at nSn x) [(.lt (.var nSn) (.lit 0), false), (.lt (.add (.var 7) (.lit 1)) (.var nSn), false), (.lt (.lit 201) (rowsS (stN (nSn + 6))), false)] := by
    refine pcDen_cons (lt_of ?_) (pcDen_cons (lt_of ?_) (pcDen_one (lt_of ?_)))
    · simp only [SI.den, r0, Bool.false_eq_true, iff_false]; omega
    · simp only [SI.den, r0, rf.io 7 (by decide), Bool.false_eq_true, iff_false]; omega
    · rw [rowsSn6pd hI, hl]
      simp only [SI.den, Bool.false_eq_true, iff_false]; omega
  match k, hk with
  | 0, _ =>
    rw [h0Sn6pd]
    refine pcDen_append (pcDen_append base ?_) hold
    obtain ⟨q1, q2, q3, q4, q5, q6, q7, q8, q9, q10⟩ := j3
    exact absurd q1 (by rw [it6_over rfl]; simp [s6])
  | 1, _ =>
    rw [h1Sn6pd]
    exact pcDen_append (pcDen_append base (pcDen_nil _)) hold
end Go.Proofs.Ytlmenjenkpnacaa
end

section
namespace Go.Proofs.Ytlmenjenkpnacaa
open Go Go.Sy Go.RowKit

def ouSn6pd : List CLeaf := [
  ⟨false, (.sl (nSn + 6) (.lit 0) qLwSn6pd0 (.var (nSn + 6))), [((.gb 0 (.app 76 (.var (nSn + 6)) (.app 80 (.var 1) (.var 0) (.add (.var 7) (.lit 1)) (.lit 0) (.lit 0) (.lit 0) (.cons (.var 0) (.cons (.var 1) (.cons (.lit 1) (.cons (.var 3) (.cons (.lit 1) (.cons (.lit 0) (.cons (.lit 0) (.cons (.lit 1) (.cons (.lit 2) (.cons (.lit 0) .nil))))))))))) (.lit 0) (.lit 0) (.lit 0) (.lit 0) .nil) (.lit 0) (.lit 0)), true), ((.eq qLwSn6pd0 (.add (.var 7) (.lit 1))), true), ((.lt (.var 7) (.lit 0)), false), ((.lt (.lit 200) (.var 7)), false), ((.lt (.var 8) (.lit 0)), false), ((.gb 0 (.app 83 (.var 1) (.var 0) (.lit 0) (.lit 0) (.lit 0) (.lit 0) .nil) (.lit 0) (.lit 0)), true)], [(1, (.tab 10 (.var 1) [some .u64, none] (.var 8) (.var 7))), ((nSn + 6), (.res (.app 78 (.var (nSn + 6)) (.var 0) (.lit 121) (.lit 10) (.var (nSn + 6)) (.lit 0) qLwSn6pd6)))]⟩]
theorem oSt_okSn6pd : OOK Try.prog (oSt Try.prog) inM := pruned_ok pr (opLoadSt_ok (opAppS_ok (opLoadS_ok (opAppendW_ok (opSliceT_ok qO_ok)))))
def oSn6pd (P : Program) : Orac := (oSt P).withLoopF fSn 3 nSn (eSn P true true).fr (eSn P true true).hp (mkM nSn (gSn P true true) (bdSn P true true))
theorem runSn6pd : runX Try.prog (oSn6pd Try.prog) fSn (tSn true true).args (tSn true true).pc (tSn true true).hp = some ouSn6pd := by kernel_rfl
attribute [local irreducible] nmAt
/-- behind one more round -/
theorem goSn6pd {ν : Env Gh} (hI : ν.I = inM) (h : pcDen ν pcSn6pd) {i : Int} (i0 : 0 ≤ i) (i1 : i ≤ ν.i 7) {k : Nat} (hk : k < 2) {y : Vals Gh} {g : Tgt} (hg : (headsSn Try.prog true true)[k]? = some g) (y0 : y.i 0 = i + 1)
    (yG : nG (y.g 6) = (se6 (ν.i 0) (ν.i 1) true (ν.i 3) true (ν.g 1).t (i + 1).toNat).map SC.nums)
    (yS : match k with
      | 0 => live6 (if i < ν.i 7 then A6.step (ν.i 1) true (it6 (ν.i 1) true true (ν.g 1).t i.toNat) (tolds (ν.g 1).t i.toNat).1 (tolds (ν.g 1).t i.toNat).2 else it6 (ν.i 1) true true (ν.g 1).t i.toNat) (y.i 1) (y.i 2) (y.i 3)
      | _ => over6 (if i < ν.i 7 then A6.step (ν.i 1) true (it6 (ν.i 1) true true (ν.g 1).t i.toNat) (tolds (ν.g 1).t i.toNat).1 (tolds (ν.g 1).t i.toNat).2 else it6 (ν.i 1) true true (ν.g 1).t i.toNat) (y.i 4) (y.i 5)) {bnd : Nat} (hm : (ν.i 7 + 1 - y.i 0).toNat < bnd) {Ow : Prop} (ho : Ow) :
    JSn true true k ν y ∧ pcDen (ν.at nSn y) g.pc ∧ (ν.i 7 + 1 - y.i 0).toNat < bnd ∧ Ow := by
  have hJ : JSn true true k ν y := by
    refine ⟨by omega, by omega, by rw [y0]; exact yG, ?_⟩
    match k, hk with
    | 0, _ => rw [y0, it6_next _ _ _ _ i0 i1]; exact yS
    | 1, _ => rw [y0, it6_next _ _ _ _ i0 i1]; exact yS
  refine ⟨hJ, ?_, hm, ho⟩
  have e : g = hdSn Try.prog true true k := by unfold hdSn hdAt; rw [hg]; rfl
  rw [e]
  exact hpdSn6pd hI h hk hJ
theorem owSn6pd {ν ν2 : Env Gh} (hI : ν.I = inM) (hI2 : ν2.I = inM) {y : Vals Gh} {g h : SG} {e w c d a b : SI} {ks : SL} (hw : w.den ν2 = 10) (hG : nG (y.g 6) = nG (g.den ν2)) : (SI.gi 17 (.app 78 g h e w c d ks) a b).den ν2 = (rowsS (stN (nSn + 6))).den (ν.at nSn y) := by
  rw [rowsSn6pd hI, gi17 hI2, hw, hG]; rfl
/-- behind the last round -/
theorem exitSn6pd {ν ν2 : Env Gh} (hI : ν.I = inM) (hI2 : ν2.I = inM) (h : pcDen ν pcSn6pd) (F0 : 0 ≤ ν.i 7) {x y : Vals Gh} (hi : ν.i 7 < x.i 0) (j0 : 1 ≤ x.i 0) (j1 : x.i 0 ≤ ν.i 7 + 1) (j2 : nG (x.g 6) = (se6 (ν.i 0) (ν.i 1) true (ν.i 3) true (ν.g 1).t (x.i 0).toNat).map SC.nums) (hy : y.g 6 = x.g 6) :
    pcDen (ν.at nSn y) [(seenB (nSn + 6) (begSn true true), true), (.eq (rowsS (stN (nSn + 6))) (.add (.var 7) (.lit 1)), true)] := by
  have rf : RF nSn ν y (ν.at nSn y) := RF.self rfl
  have e : x.i 0 = ν.i 7 + 1 := by omega
  have hl : (nG (y.g 6)).length = (x.i 0).toNat * 10 := by rw [hy, j2, List.length_map, se6_len]
  refine pcDen_cons ?_ (pcDen_one ?_)
  · have h2 : ((begSn true true).den (ν.at nSn y)) = (begSn true true).den ν := by
      unfold begSn
      simp only [SL.den, SI.den, rf.io 0 (by decide), rf.io 1 (by decide), rf.io 3 (by decide)]
    have hI3 := rf.I.trans hI
    simp only [seenB, SB.den, SG.den, SI.den, hI3, inM, xga, SL.den]
    show (nG ((ν.at nSn y).g (nSn + 6)) == List.map SC.nums (seen6 ((begSn true true).den (ν.at nSn y)) ((ν.at nSn y).g 1).t ((ν.at nSn y).i 7 + 1).toNat)) = true
    rw [h2, se6_eq, rf.g 6 (by decide), rf.go 1 (by decide), rf.io 7 (by decide), hy, j2, e]
    exact beq_self_eq_true _
  · simp only [SB.den, beq_iff_eq]
    rw [rowsSn6pd hI, hl]
    simp only [SI.den, rf.io 7 (by decide)]
    omega
theorem loopSn6pd {O' : Orac} (oo' : OOK Try.prog O' inM) : OOK Try.prog (O'.withLoop fSn 3 nSn (eSn Try.prog true true).fr (eSn Try.prog true true).hp (mkM nSn (gSn Try.prog true true) (bdSn Try.prog true true))) inM := by
  have hb : ∀ {ν : Env Gh}, (∀ x ∈ bdSn Try.prog true true, x.1.den ν ≠ x.2) → pcDen ν pcSn6pd := fun h => by unfold bdSn at h; rw [pcSn6pd_eq] at h; exact bads_of h
  refine loopF_ok pr oSt_okSn6pd (rfl : nSn = nmAt 3) (by decide +kernel) oneSn6pd (heads := headsSn Try.prog true true) (tg := gSn Try.prog true true) (sums := [[([], sumsASn6pd)], [([], sumsBSn6pd)]]) (sums0 := sums0Sn6pd) (n := 6000) (it := 0) (ghL []) rfl ?_ b0Sn6pd (JSn true true) (fun _ ν x => (ν.i 7 + 1 - x.i 0).toNat) (fun ν => (ν.i 7 + 1).toNat) ?_ ?_ ?_ oo'
  · intro i h ss hh hs c hc
    match i, hh, hs with
    | 0, hh, hs =>
      cases hs
      simp only [List.mem_singleton] at hc
      subst hc
      have e : h = hdSn Try.prog true true 0 := by unfold hdSn hdAt; rw [hh]; rfl
      subst e
      exact bASn6pd
    | 1, hh, hs =>
      cases hs
      simp only [List.mem_singleton] at hc
      subst hc
      have e : h = hdSn Try.prog true true 1 := by unfold hdSn hdAt; rw [hh]; rfl
      subst e
      exact bBSn6pd
    | n + 2, hh, hs => cases hs
  · intro t ht ν ν2 hI h rf hpc
    have hp' := hb h
    have F := factsSn6pd hI hp'
    have F0 := F.len0
    have F1 := F.len1
    
    have hI2 : ν2.I = inM := rf.I.trans hI
    have qa : ν2.i 0 = ν.i 0 := rf.io 0 (by decide)
    have qn : ν2.i 1 = ν.i 1 := rf.io 1 (by decide)
    have qc : ν2.i 3 = ν.i 3 := rf.io 3 (by decide)
    have q7 : ν2.i 7 = ν.i 7 := rf.io 7 (by decide)
    have qg : ν2.g 1 = ν.g 1 := rf.go 1 (by decide)
    have T0 := F.told 0
    have hs : it6 (ν.i 1) true true (ν.g 1).t (0 : Int).toNat = s6 true := rfl
    have eT : ((0 : Int) + 1).toNat = (0 : Int).toNat + 1 := rfl
    have lw0 := lo_wrap T0.1
    simp only [sums0Sn6pd, qLwSn6pd0, qLwSn6pd3, qLwSn6pd6, List.mem_cons, List.not_mem_nil, or_false] at ht
    rcases ht with rfl | rfl
    all_goals
      intro g hg
      dsimp only at hg ⊢
      simp only [pcDen_cons_iff, pcDen_nil_iff, SB.den, decide_eq_true_eq, decide_eq_false_iff_not, beq_iff_eq, beq_eq_false_iff_ne] at hpc
      simp only [SI.den, SG.den, gi10u hI2, gb11u hI2, q7, qn, qa, qg, Int.toNat_zero, lw0] at hpc
      generalize hy : Mt.vals _ (ghL []) ν2 = y
      have y0 : y.i 0 = 0 + 1 := by rw [← hy]; simp only [Mt.vals, lkp_cons, lkp_nil, Nat.reduceEqDiff, reduceIte, SI.den]; rfl
      have yG : nG (y.g 6) = (se6 (ν.i 0) (ν.i 1) true (ν.i 3) true (ν.g 1).t ((0 : Int) + 1).toNat).map SC.nums := by
        rw [eT, se6_succ, List.map_append, hs, ← hy]
        simp only [Mt.vals, lkp_cons, lkp_nil, Nat.reduceEqDiff, reduceIte]
        simp [nG73 hI2, nG1 hI2, SI.den, SL.den, s6, A6.obs, seenC, cI, cU, cB, cN, cL, SC.nums, se6, seenR_zero, qa, qn]
      refine goSn6pd hI hp' (Int.le_refl 0) F0 (by decide) hg y0 yG ?_ (by omega) ?_
      · simp only [hs]
        simp only [← hy, Mt.vals, lkp_cons, lkp_nil, Nat.reduceEqDiff, reduceIte, SI.den, SG.den, gi10u hI2, qg, Int.toNat_zero]
        (first | rw [if_pos (by omega)] | rw [if_neg (by omega)])
        have bd := loW_bd (tolds (ν.g 1).t 0).1
        by_cases z0 : loW (tolds (ν.g 1).t 0).1 = 0 <;> by_cases z1 : ν.i 1 < loW (tolds (ν.g 1).t 0).1 <;> first
          | (exfalso; omega)
          | (simp [live6, over6, s6, A6.step, A6.head, A6.fin, z0, z1]; done)
          | (simp [live6, over6, s6, A6.step, A6.head, A6.fin, z0, z1] <;> omega)
      constructor
      · intro z hz
        simp only [List.mem_cons, List.not_mem_nil, or_false] at hz
        subst hz
        exact owSn6pd hI hI2 (by simp only [SI.den]) (by rw [← hy]; simp only [Mt.vals, lkp_cons, lkp_nil, Nat.reduceEqDiff, reduceIte])
      · simp
      · simp
      · simp
  · intro i h ss hh hs ν x _ _ _ _
    match i, hs with
    | 0, hs => cases hs; exact ⟨_, List.mem_singleton.2 rfl, pcDen_nil _⟩
    | 1, hs => cases hs; exact ⟨_, List.mem_singleton.2 rfl, pcDen_nil _⟩
    | n + 2, hs => cases hs
  · intro i h ss hh hs c hc t ht ν x ν2 hI hbad hJ hpch _ rf hpc
    have hp' := hb hbad
    have F := factsSn6pd hI hp'
    have F0 := F.len0
    have F1 := F.len1
    
    have hI2 : ν2.I = inM := rf.I.trans hI
    have qa : ν2.i 0 = ν.i 0 := rf.io 0 (by decide)
    have qn : ν2.i 1 = ν.i 1 := rf.io 1 (by decide)
    have qc : ν2.i 3 = ν.i 3 := rf.io 3 (by decide)
    have q7 : ν2.i 7 = ν.i 7 := rf.io 7 (by decide)
    have qg : ν2.g 1 = ν.g 1 := rf.go 1 (by decide)
    have q0 : ν2.i (nSn + 0) = x.i 0 := rf.i 0 (by decide)
    have q1 : ν2.i (nSn + 1) = x.i 1 := rf.i 1 (by decide)
    have q2 : ν2.i (nSn + 2) = x.i 2 := rf.i 2 (by decide)
    have q3 : ν2.i (nSn + 3) = x.i 3 := rf.i 3 (by decide)
    have q4 : ν2.i (nSn + 4) = x.i 4 := rf.i 4 (by decide)
    have q5 : ν2.i (nSn + 5) = x.i 5 := rf.i 5 (by decide)
    have qG : ν2.g (nSn + 6) = x.g 6 := rf.g 6 (by decide)
    obtain ⟨j0, j1, j2, j3⟩ := hJ
    have T0 := F.told (x.i 0).toNat
    have lw0 := lo_wrap T0.1
    have bd := loW_bd (tolds (ν.g 1).t (x.i 0).toNat).1
    have eT : (x.i 0 + 1).toNat = (x.i 0).toNat + 1 := by omega
    match i, hh, hs with
    | 0, hh, hs =>
      cases hs
      simp only [List.mem_singleton] at hc
      subst hc
      exfalso
      have := j3.1
      rw [it6_over rfl] at this
      simp [s6] at this
    | 1, hh, hs =>
      cases hs
      simp only [List.mem_singleton] at hc
      subst hc
      simp only [sumsBSn6pd, qLwSn6pd0, qLwSn6pd4, qLwSn6pd6, List.mem_cons, List.not_mem_nil, or_false] at ht
      rcases ht with rfl | rfl | rfl
      all_goals
        simp only [pcDen_cons_iff, pcDen_nil_iff, SB.den, decide_eq_true_eq, decide_eq_false_iff_not, beq_iff_eq, beq_eq_false_iff_ne] at hpc
        simp only [SI.den, SG.den, gi10u hI2, gb11u hI2, q7, qn, qa, qg, q0] at hpc
      rotate_left 2
      · generalize hy : Mt.vals _ (ghL []) ν2 = y
        have y6 : y.g 6 = x.g 6 := by rw [← hy]; simp only [Mt.vals, lkp_cons, lkp_nil, Nat.reduceEqDiff, reduceIte, SG.den, qG]
        refine ⟨fun g hg => ?_, ?_⟩
        · cases hg
          exact exitSn6pd hI hI2 hp' F0 (by omega) j0 j1 j2 y6
        constructor
        · intro z hz
          simp only [List.mem_cons, List.not_mem_nil, or_false] at hz
          subst hz
          exact owSn6pd hI hI2 (by simp only [SI.den]) (by rw [y6]; simp only [SG.den, qG])
        · simp
        · simp
        · simp
      all_goals
        intro g hg
        dsimp only at hg ⊢
        have hle : x.i 0 ≤ ν.i 7 := by omega
        have em : (min (x.i 0) (ν.i 7)).toNat = (x.i 0).toNat := by omega
        rw [em] at j3
        generalize hS : it6 (ν.i 1) true true (ν.g 1).t (x.i 0).toNat = S at j3
        obtain ⟨st, hh0, lk, dn', cd, v⟩ := S
        obtain ⟨rfl, rfl, rfl⟩ := j3
        generalize hy : Mt.vals _ (ghL []) ν2 = y
        have y0 : y.i 0 = x.i 0 + 1 := by rw [← hy]; simp only [Mt.vals, lkp_cons, lkp_nil, Nat.reduceEqDiff, reduceIte, SI.den, q0]
        have yG : nG (y.g 6) = (se6 (ν.i 0) (ν.i 1) true (ν.i 3) true (ν.g 1).t (x.i 0 + 1).toNat).map SC.nums := by
          rw [eT, se6_succ, List.map_append, ← j2, hS, ← hy]
          simp only [Mt.vals, lkp_cons, lkp_nil, Nat.reduceEqDiff, reduceIte]
          simp only [nG73 hI2]
          simp [SI.den, SL.den, SG.den, A6.obs, seenC, cI, cU, cB, cN, cL, SC.nums, qG, q4, q5]
        refine goSn6pd hI hp' (by omega) hle (by decide) hg y0 yG ?_ (by omega) ?_
        · simp only [hS]
          simp only [← hy, Mt.vals, lkp_cons, lkp_nil, Nat.reduceEqDiff, reduceIte, SI.den, q4, q5]
          (first | rw [if_pos (by omega)] | rw [if_neg (by omega)])
          simp [over6, A6.step]
        constructor
        · intro z hz
          simp only [List.mem_cons, List.not_mem_nil, or_false] at hz
          subst hz
          exact owSn6pd hI hI2 (by simp only [SI.den]) (by rw [← hy]; simp only [Mt.vals, lkp_cons, lkp_nil, Nat.reduceEqDiff, reduceIte])
        · simp
        · simp
        · simp
    | n + 2, hh, hs => cases hs
theorem oSn6pd_ok : OOK Try.prog (oSn6pd Try.prog) inM := withLoopF_ok oSt_okSn6pd (loopSn6pd oSt_okSn6pd)
end Go.Proofs.Ytlmenjenkpnacaa
end
