/- What is seen of the document's deque, step by step (kind 3; 0: refused). (Printed by sn7.py.) -/
import Derived.Test.YtlmenjenkpnacaaLwXA
import Derived.Test.YtlmenjenkpnacaaLwXV
import Derived.Test.YtlmenjenkpnacaaLwXS
set_option linter.unusedVariables false
set_option linter.unusedSimpArgs false

section
namespace Go.Proofs.Ytlmenjenkpnacaa
open Go Go.Sy Go.RowKit
def zLwSn730 : Nat := 5260135901548373507240989912806434948320061019614659372438935124170494381229535744882347198006576527136876520690865454719531996656666962103829106354085710405824947191608585901821569868969565883402979936554713088

def qLwSn733 : SL := (.cons (.lit 3) (.cons (.lit 3) (.cons (.lit 7) (.cons (.lit 7) (.cons (.lit 8) (.cons (.lit 3) (.cons (.lit 7) (.cons (.lit 10) (.cons (.lit 8) (.cons (.lit 10) .nil))))))))))
def qLwSn730 : SI := (.gi 17 (.app 78 (.var (n7 + 6)) (.var 0) (.lit 121) (.lit 10) (.var (n7 + 6)) (.lit 0) qLwSn733) (.lit 0) (.lit 0))
def qLwSn731 : SG := (.app 73 (.app 73 (.app 73 (.app 73 (.app 73 (.app 73 (.app 73 (.app 73 (.app 73 (.app 73 (.var (n7 + 6)) (.var zLwSn730) (.lit 3) (.lit 3) (.lit 0) (.lit 0) .nil) (.var zLwSn730) (.lit 3) (.var 0) (.lit 1) (.lit 0) .nil) (.var zLwSn730) (.lit 7) (.var (n7 + 2)) (.lit 2) (.lit 0) .nil) (.var zLwSn730) (.lit 7) (.wrap .u64 (.add (.var (n7 + 2)) (.lit 1))) (.lit 3) (.lit 0) .nil) (.var zLwSn730) (.lit 8) (.lit 1) (.lit 4) (.lit 0) .nil) (.var zLwSn730) (.lit 3) (.lit 0) (.lit 5) (.lit 0) .nil) (.var zLwSn730) (.lit 7) (.lit 0) (.lit 6) (.lit 0) .nil) (.var zLwSn730) (.lit 9) (.lit 0) (.lit 7) (.lit 0) .nil) (.var zLwSn730) (.lit 8) (.lit 0) (.lit 8) (.lit 0) .nil) (.var zLwSn730) (.lit 10) (.lit 0) (.lit 9) (.lit 0) .nil)
def qLwSn732 : SG := (.app 73 (.app 73 (.app 73 (.app 73 (.app 73 (.app 73 (.app 73 (.app 73 (.app 73 (.app 73 (.var (n7 + 6)) (.var zLwSn730) (.lit 3) (.lit 1) (.lit 0) (.lit 0) .nil) (.var zLwSn730) (.lit 3) (.add (.var 0) (.lit 1)) (.lit 1) (.lit 0) .nil) (.var zLwSn730) (.lit 7) (.lit 0) (.lit 2) (.lit 0) .nil) (.var zLwSn730) (.lit 7) (.lit 0) (.lit 3) (.lit 0) .nil) (.var zLwSn730) (.lit 8) (.lit 1) (.lit 4) (.lit 0) .nil) (.var zLwSn730) (.lit 3) (.lit 0) (.lit 5) (.lit 0) .nil) (.var zLwSn730) (.lit 7) (.lit 0) (.lit 6) (.lit 0) .nil) (.var zLwSn730) (.lit 9) (.lit 0) (.lit 7) (.lit 0) .nil) (.var zLwSn730) (.lit 8) (.lit 0) (.lit 8) (.lit 0) .nil) (.var zLwSn730) (.lit 10) (.lit 0) (.lit 9) (.lit 0) .nil)
def qLwSn734 : SG := (.app 73 (.app 73 (.app 73 (.app 73 (.app 73 (.app 73 (.app 73 (.app 73 (.app 73 (.app 73 (.var (n7 + 6)) (.var zLwSn730) (.lit 3) (.lit 1) (.lit 0) (.lit 0) .nil) (.var zLwSn730) (.lit 3) (.add (.add (.var 0) (.lit 2)) (.tmod (.var (n7 + 2)) (.var 1))) (.lit 1) (.lit 0) .nil) (.var zLwSn730) (.lit 7) (.lit 0) (.lit 2) (.lit 0) .nil) (.var zLwSn730) (.lit 7) (.lit 0) (.lit 3) (.lit 0) .nil) (.var zLwSn730) (.lit 8) (.lit 1) (.lit 4) (.lit 0) .nil) (.var zLwSn730) (.lit 3) (.lit 0) (.lit 5) (.lit 0) .nil) (.var zLwSn730) (.lit 7) (.lit 0) (.lit 6) (.lit 0) .nil) (.var zLwSn730) (.lit 9) (.lit 0) (.lit 7) (.lit 0) .nil) (.var zLwSn730) (.lit 8) (.lit 0) (.lit 8) (.lit 0) .nil) (.var zLwSn730) (.lit 10) (.lit 0) (.lit 9) (.lit 0) .nil)
def qLwSn735 : SG := (.app 73 (.app 73 (.app 73 (.app 73 (.app 73 (.app 73 (.app 73 (.app 73 (.app 73 (.app 73 (.app 1 (.var 0) (.var 0) (.lit 0) (.lit 0) (.lit 0) (.lit 0) .nil) (.var zLwSn730) (.lit 3) (.lit 1) (.lit 0) (.lit 0) .nil) (.var zLwSn730) (.lit 3) (.var 0) (.lit 1) (.lit 0) .nil) (.var zLwSn730) (.lit 7) (.lit 0) (.lit 2) (.lit 0) .nil) (.var zLwSn730) (.lit 7) (.lit 0) (.lit 3) (.lit 0) .nil) (.var zLwSn730) (.lit 8) (.lit 1) (.lit 4) (.lit 0) .nil) (.var zLwSn730) (.lit 3) (.lit 0) (.lit 5) (.lit 0) .nil) (.var zLwSn730) (.lit 7) (.lit 0) (.lit 6) (.lit 0) .nil) (.var zLwSn730) (.lit 9) (.lit 0) (.lit 7) (.lit 0) .nil) (.var zLwSn730) (.lit 8) (.lit 0) (.lit 8) (.lit 0) .nil) (.var zLwSn730) (.lit 10) (.lit 0) (.lit 9) (.lit 0) .nil)
def qLwSn736 : SG := (.app 73 (.app 73 (.app 73 (.app 73 (.app 73 (.app 73 (.app 73 (.app 73 (.app 73 (.app 73 (.var (n7 + 6)) (.var zLwSn730) (.lit 3) (.lit 0) (.lit 0) (.lit 0) .nil) (.var zLwSn730) (.lit 3) (.lit 0) (.lit 1) (.lit 0) .nil) (.var zLwSn730) (.lit 7) (.lit 0) (.lit 2) (.lit 0) .nil) (.var zLwSn730) (.lit 7) (.lit 0) (.lit 3) (.lit 0) .nil) (.var zLwSn730) (.lit 8) (.lit 0) (.lit 4) (.lit 0) .nil) (.var zLwSn730) (.lit 3) (.var (n7 + 4)) (.lit 5) (.lit 0) .nil) (.var zLwSn730) (.lit 7) (.var (n7 + 5)) (.lit 6) (.lit 0) .nil) (.var zLwSn730) (.lit 9) (.lit 0) (.lit 7) (.lit 0) .nil) (.var zLwSn730) (.lit 8) (.lit 1) (.lit 8) (.lit 0) .nil) (.var zLwSn730) (.lit 10) (.lit 0) (.lit 9) (.lit 0) .nil)
def qLwSn737 : SG := (.app 73 (.app 73 (.app 73 (.app 73 (.app 73 (.app 73 (.app 73 (.app 73 (.app 73 (.app 73 (.var (n7 + 6)) (.var zLwSn730) (.lit 3) (.lit 1) (.lit 0) (.lit 0) .nil) (.var zLwSn730) (.lit 3) (.var 0) (.lit 1) (.lit 0) .nil) (.var zLwSn730) (.lit 7) (.lit 0) (.lit 2) (.lit 0) .nil) (.var zLwSn730) (.lit 7) (.lit 0) (.lit 3) (.lit 0) .nil) (.var zLwSn730) (.lit 8) (.lit 1) (.lit 4) (.lit 0) .nil) (.var zLwSn730) (.lit 3) (.lit 0) (.lit 5) (.lit 0) .nil) (.var zLwSn730) (.lit 7) (.lit 0) (.lit 6) (.lit 0) .nil) (.var zLwSn730) (.lit 9) (.lit 0) (.lit 7) (.lit 0) .nil) (.var zLwSn730) (.lit 8) (.lit 0) (.lit 8) (.lit 0) .nil) (.var zLwSn730) (.lit 10) (.lit 0) (.lit 9) (.lit 0) .nil)
def tLwSn730 : PC := [((.lt (.var (n7 + 0)) (.lit 0)), false), ((.lt (.add (.var 7) (.lit 1)) (.var (n7 + 0))), false), ((.lt (.lit 201) qLwSn730), false), ((.lt (.var (n7 + 1)) (.lit 0)), false), ((.lt (.var (n7 + 1)) (.lit 18446744073709551616)), true), ((.lt (.var (n7 + 2)) (.lit 0)), false), ((.lt (.var (n7 + 2)) (.lit 18446744073709551616)), true), ((.lt (.var (n7 + 3)) (.lit 0)), false), ((.lt (.var (n7 + 3)) (.lit 18446744073709551616)), true), ((.lt (.var 0) (.lit 0)), false), ((.lt (.var 0) (.sub (.lit 65535) (.mul (.lit 1) (.var 1)))), true), ((.lt (.var 1) (.lit 2)), false), ((.lt (.lit 256) (.var 1)), false), ((.or (.eq (.var 1) (.lit 2)) (.or (.eq (.var 1) (.lit 4)) (.or (.eq (.var 1) (.lit 8)) (.or (.eq (.var 1) (.lit 16)) (.or (.eq (.var 1) (.lit 32)) (.or (.eq (.var 1) (.lit 64)) (.or (.eq (.var 1) (.lit 128)) (.eq (.var 1) (.lit 256))))))))), true), ((.lt (.var 3) (.lit 0)), false), ((.lt (.var 3) (.lit 18446744073709551616)), true), ((.lt (.var 7) (.lit 0)), false), ((.lt (.lit 200) (.var 7)), false), ((.lt (.var 8) (.lit 0)), false), ((.gb 0 (.app 83 (.var 1) (.var 0) (.lit 0) (.lit 0) (.lit 0) (.lit 0) .nil) (.lit 0) (.lit 0)), true)]
def tLwSn731 : PC := [((.lt (.var 0) (.lit 0)), false), ((.lt (.var 0) (.sub (.lit 65535) (.mul (.lit 1) (.var 1)))), true), ((.lt (.var 1) (.lit 2)), false), ((.lt (.lit 256) (.var 1)), false), ((.or (.eq (.var 1) (.lit 2)) (.or (.eq (.var 1) (.lit 4)) (.or (.eq (.var 1) (.lit 8)) (.or (.eq (.var 1) (.lit 16)) (.or (.eq (.var 1) (.lit 32)) (.or (.eq (.var 1) (.lit 64)) (.or (.eq (.var 1) (.lit 128)) (.eq (.var 1) (.lit 256))))))))), true), ((.lt (.var 3) (.lit 0)), false), ((.lt (.var 3) (.lit 18446744073709551616)), true), ((.lt (.var 7) (.lit 0)), false), ((.lt (.lit 200) (.var 7)), false), ((.lt (.var 8) (.lit 0)), false), ((.gb 0 (.app 83 (.var 1) (.var 0) (.lit 0) (.lit 0) (.lit 0) (.lit 0) .nil) (.lit 0) (.lit 0)), true)]
def pcSn73 : PC := tLwSn731
def sums0Sn73 : List SumT := [
  ⟨.normal, 1, ⟨[((n7 + 6), zLwSn730)], [(3, (.lit 0)), (2, (.gi 10 (.var 1) (.lit 0) (.lit 0))), (1, (.lit 0)), (0, (.lit 1)), (6, (.var zLwSn730))], [], [(6, qLwSn735)], [((.gi 17 (.app 78 qLwSn735 (.var 0) (.lit 121) (.lit 10) (.var zLwSn730) (.lit 0) qLwSn733) (.lit 0) (.lit 0)), qLwSn730)], [], [], []⟩, (((.lt (.var 7) (.lit 1)), false) :: tLwSn731)⟩,
  ⟨.normal, 0, ⟨[((n7 + 6), zLwSn730)], [(3, (.lit 0)), (2, (.lit 0)), (1, (.lit 0)), (0, (.lit 1)), (6, (.var zLwSn730))], [], [(6, qLwSn735)], [((.gi 17 (.app 78 qLwSn735 (.var 0) (.lit 121) (.lit 10) (.var zLwSn730) (.lit 0) qLwSn733) (.lit 0) (.lit 0)), qLwSn730)], [], [], []⟩, (((.lt (.var 7) (.lit 1)), true) :: tLwSn731)⟩]
def sSn73k0c0 : List SumT := [
  ⟨.normal, 1, ⟨[((n7 + 6), zLwSn730)], [(3, (.var (n7 + 3))), (2, (.gi 10 (.var 1) (.var (n7 + 0)) (.lit 0))), (1, (.var (n7 + 1))), (0, (.add (.var (n7 + 0)) (.lit 1))), (6, (.var zLwSn730))], [], [(6, qLwSn737)], [((.gi 17 (.app 78 qLwSn737 (.var 0) (.lit 121) (.lit 10) (.var zLwSn730) (.lit 0) qLwSn733) (.lit 0) (.lit 0)), qLwSn730)], [], [], []⟩, (((.lt (.var (n7 + 0)) (.var 7)), true) :: ((.lt (.var 7) (.var (n7 + 0))), false) :: tLwSn730)⟩,
  ⟨.normal, 0, ⟨[((n7 + 6), zLwSn730)], [(3, (.var (n7 + 3))), (2, (.var (n7 + 2))), (1, (.var (n7 + 1))), (0, (.add (.var (n7 + 0)) (.lit 1))), (6, (.var zLwSn730))], [], [(6, qLwSn737)], [((.gi 17 (.app 78 qLwSn737 (.var 0) (.lit 121) (.lit 10) (.var zLwSn730) (.lit 0) qLwSn733) (.lit 0) (.lit 0)), qLwSn730)], [], [], []⟩, (((.lt (.var (n7 + 0)) (.var 7)), false) :: ((.lt (.var 7) (.var (n7 + 0))), false) :: tLwSn730)⟩,
  ⟨.exit 0, 0, ⟨[((n7 + 6), (n7 + 6))], [(6, (.var (n7 + 6)))], [], [(6, (.var (n7 + 6)))], [(qLwSn730, qLwSn730)], [], [], []⟩, (((.lt (.var 7) (.var (n7 + 0))), true) :: tLwSn730)⟩]
def sSn73k1c0 : List SumT := [
  ⟨.normal, 4, ⟨[((n7 + 6), zLwSn730)], [(5, (.lit 0)), (4, (.lit 5)), (3, (.var (n7 + 3))), (2, (.var (n7 + 2))), (1, (.gi 10 (.var 1) (.var (n7 + 0)) (.lit 0))), (7, (.lit 3)), (0, (.add (.var (n7 + 0)) (.lit 1))), (6, (.var zLwSn730))], [], [(6, qLwSn732)], [((.gi 17 (.app 78 qLwSn732 (.var 0) (.lit 121) (.lit 10) (.var zLwSn730) (.lit 0) qLwSn733) (.lit 0) (.lit 0)), qLwSn730)], [], [], []⟩, (((.lt (.wrap .i64 (.wrap .u64 (.sub (.gi 10 (.var 1) (.var (n7 + 0)) (.lit 0)) (.var (n7 + 2))))) (.lit 1)), true) :: ((.lt (.var (n7 + 0)) (.var 7)), true) :: ((.lt (.var 7) (.var (n7 + 0))), false) :: tLwSn730)⟩,
  ⟨.normal, 2, ⟨[((n7 + 6), zLwSn730)], [(3, (.var (n7 + 3))), (2, (.var (n7 + 2))), (1, (.gi 10 (.var 1) (.var (n7 + 0)) (.lit 0))), (0, (.add (.var (n7 + 0)) (.lit 1))), (6, (.var zLwSn730))], [], [(6, qLwSn732)], [((.gi 17 (.app 78 qLwSn732 (.var 0) (.lit 121) (.lit 10) (.var zLwSn730) (.lit 0) qLwSn733) (.lit 0) (.lit 0)), qLwSn730)], [], [], []⟩, (((.lt (.wrap .i64 (.wrap .u64 (.sub (.gi 10 (.var 1) (.var (n7 + 0)) (.lit 0)) (.var (n7 + 2))))) (.lit 1)), false) :: ((.lt (.var (n7 + 0)) (.var 7)), true) :: ((.lt (.var 7) (.var (n7 + 0))), false) :: tLwSn730)⟩,
  ⟨.normal, 1, ⟨[((n7 + 6), zLwSn730)], [(3, (.var (n7 + 3))), (2, (.var (n7 + 2))), (1, (.var (n7 + 1))), (0, (.add (.var (n7 + 0)) (.lit 1))), (6, (.var zLwSn730))], [], [(6, qLwSn732)], [((.gi 17 (.app 78 qLwSn732 (.var 0) (.lit 121) (.lit 10) (.var zLwSn730) (.lit 0) qLwSn733) (.lit 0) (.lit 0)), qLwSn730)], [], [], []⟩, (((.lt (.var (n7 + 0)) (.var 7)), false) :: ((.lt (.var 7) (.var (n7 + 0))), false) :: tLwSn730)⟩,
  ⟨.exit 0, 0, ⟨[((n7 + 6), (n7 + 6))], [(6, (.var (n7 + 6)))], [], [(6, (.var (n7 + 6)))], [(qLwSn730, qLwSn730)], [], [], []⟩, (((.lt (.var 7) (.var (n7 + 0))), true) :: tLwSn730)⟩]
def sSn73k2c0 : List SumT := [
  ⟨.normal, 3, ⟨[((n7 + 6), zLwSn730)], [(3, (.gi 10 (.var 1) (.var (n7 + 0)) (.lit 0))), (2, (.var (n7 + 2))), (1, (.var (n7 + 1))), (0, (.add (.var (n7 + 0)) (.lit 1))), (6, (.var zLwSn730))], [], [(6, qLwSn734)], [((.gi 17 (.app 78 qLwSn734 (.var 0) (.lit 121) (.lit 10) (.var zLwSn730) (.lit 0) qLwSn733) (.lit 0) (.lit 0)), qLwSn730)], [], [], []⟩, (((.lt (.var (n7 + 0)) (.var 7)), true) :: ((.lt (.var 7) (.var (n7 + 0))), false) :: tLwSn730)⟩,
  ⟨.normal, 2, ⟨[((n7 + 6), zLwSn730)], [(3, (.var (n7 + 3))), (2, (.var (n7 + 2))), (1, (.var (n7 + 1))), (0, (.add (.var (n7 + 0)) (.lit 1))), (6, (.var zLwSn730))], [], [(6, qLwSn734)], [((.gi 17 (.app 78 qLwSn734 (.var 0) (.lit 121) (.lit 10) (.var zLwSn730) (.lit 0) qLwSn733) (.lit 0) (.lit 0)), qLwSn730)], [], [], []⟩, (((.lt (.var (n7 + 0)) (.var 7)), false) :: ((.lt (.var 7) (.var (n7 + 0))), false) :: tLwSn730)⟩,
  ⟨.exit 0, 0, ⟨[((n7 + 6), (n7 + 6))], [(6, (.var (n7 + 6)))], [], [(6, (.var (n7 + 6)))], [(qLwSn730, qLwSn730)], [], [], []⟩, (((.lt (.var 7) (.var (n7 + 0))), true) :: tLwSn730)⟩]
def sSn73k3c0 : List SumT := [
  ⟨.normal, 4, ⟨[((n7 + 6), zLwSn730)], [(5, (.var (n7 + 3))), (4, (.lit 0)), (3, (.var (n7 + 3))), (2, (.var (n7 + 2))), (1, (.var (n7 + 1))), (7, (.lit 5)), (0, (.add (.var (n7 + 0)) (.lit 1))), (6, (.var zLwSn730))], [], [(6, qLwSn731)], [((.gi 17 (.app 78 qLwSn731 (.var 0) (.lit 121) (.lit 10) (.var zLwSn730) (.lit 0) qLwSn733) (.lit 0) (.lit 0)), qLwSn730)], [], [], []⟩, (((.gb 11 (.var 1) (.var (n7 + 0)) (.lit 0)), true) :: ((.lt (.var (n7 + 0)) (.var 7)), true) :: ((.lt (.var 7) (.var (n7 + 0))), false) :: tLwSn730)⟩,
  ⟨.normal, 4, ⟨[((n7 + 6), zLwSn730)], [(5, (.lit 0)), (4, (.lit 6)), (3, (.var (n7 + 3))), (2, (.var (n7 + 2))), (1, (.var (n7 + 1))), (7, (.lit 5)), (0, (.add (.var (n7 + 0)) (.lit 1))), (6, (.var zLwSn730))], [], [(6, qLwSn731)], [((.gi 17 (.app 78 qLwSn731 (.var 0) (.lit 121) (.lit 10) (.var zLwSn730) (.lit 0) qLwSn733) (.lit 0) (.lit 0)), qLwSn730)], [], [], []⟩, (((.gb 11 (.var 1) (.var (n7 + 0)) (.lit 0)), false) :: ((.lt (.var (n7 + 0)) (.var 7)), true) :: ((.lt (.var 7) (.var (n7 + 0))), false) :: tLwSn730)⟩,
  ⟨.normal, 3, ⟨[((n7 + 6), zLwSn730)], [(3, (.var (n7 + 3))), (2, (.var (n7 + 2))), (1, (.var (n7 + 1))), (0, (.add (.var (n7 + 0)) (.lit 1))), (6, (.var zLwSn730))], [], [(6, qLwSn731)], [((.gi 17 (.app 78 qLwSn731 (.var 0) (.lit 121) (.lit 10) (.var zLwSn730) (.lit 0) qLwSn733) (.lit 0) (.lit 0)), qLwSn730)], [], [], []⟩, (((.lt (.var (n7 + 0)) (.var 7)), false) :: ((.lt (.var 7) (.var (n7 + 0))), false) :: tLwSn730)⟩,
  ⟨.exit 0, 0, ⟨[((n7 + 6), (n7 + 6))], [(6, (.var (n7 + 6)))], [], [(6, (.var (n7 + 6)))], [(qLwSn730, qLwSn730)], [], [], []⟩, (((.lt (.var 7) (.var (n7 + 0))), true) :: tLwSn730)⟩]
def sSn73k4c0 : List SumT := [
  ⟨.normal, 4, ⟨[((n7 + 6), zLwSn730)], [(5, (.var (n7 + 5))), (4, (.var (n7 + 4))), (3, (.var (n7 + 3))), (2, (.var (n7 + 2))), (1, (.var (n7 + 1))), (7, (.var (n7 + 7))), (0, (.add (.var (n7 + 0)) (.lit 1))), (6, (.var zLwSn730))], [], [(6, qLwSn736)], [((.gi 17 (.app 78 qLwSn736 (.var 0) (.lit 121) (.lit 10) (.var zLwSn730) (.lit 0) qLwSn733) (.lit 0) (.lit 0)), qLwSn730)], [], [], []⟩, (((.lt (.var (n7 + 0)) (.var 7)), true) :: ((.lt (.var 7) (.var (n7 + 0))), false) :: ((.lt (.var (n7 + 0)) (.lit 0)), false) :: ((.lt (.add (.var 7) (.lit 1)) (.var (n7 + 0))), false) :: ((.lt (.lit 201) qLwSn730), false) :: tLwSn731)⟩,
  ⟨.normal, 4, ⟨[((n7 + 6), zLwSn730)], [(5, (.var (n7 + 5))), (4, (.var (n7 + 4))), (3, (.var (n7 + 3))), (2, (.var (n7 + 2))), (1, (.var (n7 + 1))), (7, (.var (n7 + 7))), (0, (.add (.var (n7 + 0)) (.lit 1))), (6, (.var zLwSn730))], [], [(6, qLwSn736)], [((.gi 17 (.app 78 qLwSn736 (.var 0) (.lit 121) (.lit 10) (.var zLwSn730) (.lit 0) qLwSn733) (.lit 0) (.lit 0)), qLwSn730)], [], [], []⟩, (((.lt (.var (n7 + 0)) (.var 7)), false) :: ((.lt (.var 7) (.var (n7 + 0))), false) :: ((.lt (.var (n7 + 0)) (.lit 0)), false) :: ((.lt (.add (.var 7) (.lit 1)) (.var (n7 + 0))), false) :: ((.lt (.lit 201) qLwSn730), false) :: tLwSn731)⟩,
  ⟨.exit 0, 0, ⟨[((n7 + 6), (n7 + 6))], [(6, (.var (n7 + 6)))], [], [(6, (.var (n7 + 6)))], [(qLwSn730, qLwSn730)], [], [], []⟩, (((.lt (.var 7) (.var (n7 + 0))), true) :: ((.lt (.var (n7 + 0)) (.lit 0)), false) :: ((.lt (.add (.var 7) (.lit 1)) (.var (n7 + 0))), false) :: ((.lt (.lit 201) qLwSn730), false) :: tLwSn731)⟩]
theorem pcSn73_eq : (e7 Try.prog 3).pc = pcSn73 := by kernel_rfl
theorem avSn73 : pav n7 (n7 + 64) pcSn73 = true := by kernel_rfl
theorem b0Sn73 : sums07 Try.prog 3 = some sums0Sn73 := by kernel_rfl
theorem bSn73k0c0 : sums7 Try.prog 3 0 0 = some sSn73k0c0 := by kernel_rfl
theorem bSn73k1c0 : sums7 Try.prog 3 1 0 = some sSn73k1c0 := by kernel_rfl
theorem bSn73k2c0 : sums7 Try.prog 3 2 0 = some sSn73k2c0 := by kernel_rfl
theorem bSn73k3c0 : sums7 Try.prog 3 3 0 = some sSn73k3c0 := by kernel_rfl
theorem bSn73k4c0 : sums7 Try.prog 3 4 0 = some sSn73k4c0 := by kernel_rfl
theorem oneSn73 : (loopsAt Try.prog f7S 3).length = 1 := by kernel_rfl
theorem hSn73k0 : (hd7 Try.prog 3 0).pc = bas7 ++ liv7 ++ pcSn73 := by kernel_rfl
theorem hSSn73k0 {s : A7} {y : Vals Gh} : hS7 3 0 s y ↔ s.dn = false ∧ s.st = 1 ∧ s.b = y.i 1 ∧ s.t = y.i 2 ∧ s.x = y.i 3 ∧ s.won = false ∧ 0 ≤ y.i 1 ∧ y.i 1 < 18446744073709551616 ∧ 0 ≤ y.i 2 ∧ y.i 2 < 18446744073709551616 ∧ 0 ≤ y.i 3 ∧ y.i 3 < 18446744073709551616 := Iff.rfl
theorem hSn73k1 : (hd7 Try.prog 3 1).pc = bas7 ++ liv7 ++ pcSn73 := by kernel_rfl
theorem hSSn73k1 {s : A7} {y : Vals Gh} : hS7 3 1 s y ↔ s.dn = false ∧ s.st = 2 ∧ s.b = y.i 1 ∧ s.t = y.i 2 ∧ s.x = y.i 3 ∧ s.won = false ∧ 0 ≤ y.i 1 ∧ y.i 1 < 18446744073709551616 ∧ 0 ≤ y.i 2 ∧ y.i 2 < 18446744073709551616 ∧ 0 ≤ y.i 3 ∧ y.i 3 < 18446744073709551616 := Iff.rfl
theorem hSn73k2 : (hd7 Try.prog 3 2).pc = bas7 ++ liv7 ++ pcSn73 := by kernel_rfl
theorem hSSn73k2 {s : A7} {y : Vals Gh} : hS7 3 2 s y ↔ s.dn = false ∧ s.st = 3 ∧ s.b = y.i 1 ∧ s.t = y.i 2 ∧ s.x = y.i 3 ∧ s.won = false ∧ 0 ≤ y.i 1 ∧ y.i 1 < 18446744073709551616 ∧ 0 ≤ y.i 2 ∧ y.i 2 < 18446744073709551616 ∧ 0 ≤ y.i 3 ∧ y.i 3 < 18446744073709551616 := Iff.rfl
theorem hSn73k3 : (hd7 Try.prog 3 3).pc = bas7 ++ liv7 ++ pcSn73 := by kernel_rfl
theorem hSSn73k3 {s : A7} {y : Vals Gh} : hS7 3 3 s y ↔ s.dn = false ∧ s.st = 4 ∧ s.b = y.i 1 ∧ s.t = y.i 2 ∧ s.x = y.i 3 ∧ s.won = false ∧ 0 ≤ y.i 1 ∧ y.i 1 < 18446744073709551616 ∧ 0 ≤ y.i 2 ∧ y.i 2 < 18446744073709551616 ∧ 0 ≤ y.i 3 ∧ y.i 3 < 18446744073709551616 := Iff.rfl
theorem hSn73k4 : (hd7 Try.prog 3 4).pc = bas7 ++ pcSn73 := by kernel_rfl
theorem hSSn73k4 {s : A7} {y : Vals Gh} : hS7 3 4 s y ↔ s.dn = true ∧ s.cd = y.i 4 ∧ s.v = y.i 5 := Iff.rfl
structure FSn73 (ν : Env Gh) : Prop where
  len0 : 0 ≤ ν.i 7
  len1 : ν.i 7 ≤ 200
  told : ∀ j, 0 ≤ (tolds (ν.g 1).t j).1 ∧ (tolds (ν.g 1).t j).1 < 18446744073709551616
  a0 : 0 ≤ ν.i 0
  a1 : ν.i 0 < 65535 - 1 * ν.i 1
  n1 : 2 ≤ ν.i 1
  n2 : ν.i 1 ≤ 256
  pw : Pow (ν.i 1)
  v0 : 0 ≤ ν.i 3
  v1 : ν.i 3 < 18446744073709551616
theorem factsSn73 {ν : Env Gh} (hI : ν.I = inM) (h : pcDen ν pcSn73) : FSn73 ν := by
  have h2 := h
  simp only [pcSn73, tLwSn731, pcDen_cons_iff, pcDen_nil_iff] at h2
  have h8 : (SB.gb 0 (.app 83 (.var 1) (.var 0) (.lit 0) (.lit 0) (.lit 0) (.lit 0) .nil) (.lit 0) (.lit 0)).den ν = true := pcAt h 10 rfl
  rw [x83 hI] at h8
  have hpw : (powB (.var 1)).den ν = true := pcAt h 4 rfl
  rw [powB_den] at hpw
  simp only [SB.den, decide_eq_true_eq, decide_eq_false_iff_not] at h2
  simp only [SI.den] at h2
  exact ⟨by omega, by omega, fun j => tolds_u64 h8 j, by omega, by omega, by omega, by omega, hpw, by omega, by omega⟩
attribute [local irreducible] nmAt
theorem rowsSn73 {ν : Env Gh} {x : Vals Gh} (hI : ν.I = inM) : (rowsS (stN (n7 + 6))).den (ν.at n7 x) = (((nG (x.g 6)).length / 10 : Nat) : Int) := by
  have rf : RF n7 ν x (ν.at n7 x) := RF.self rfl
  unfold rowsS stN St.full stG
  rw [gi17 (rf.I.trans hI)]
  simp only [SG.den, SI.den, rf.g 6 (by decide)]
  rfl
theorem hpdSn73 {ν : Env Gh} (hI : ν.I = inM) (h : pcDen ν pcSn73) {k : Nat} (hk : k < 5) {x : Vals Gh} (hJ : J7 3 k ν x) : pcDen (ν.at n7 x) (hd7 Try.prog 3 k).pc := by
  have F := factsSn73 hI h
  have rf : RF n7 ν x (ν.at n7 x) := RF.self rfl
  have r0 : (ν.at n7 x).i n7 = x.i 0 := rf.i 0 (by decide)
  have hold : pcDen (ν.at n7 x) pcSn73 := pcDen_agree (at_agree (ρ := fun _ => 0) (ρ' := fun _ => 0) (fun _ _ => rfl)) avSn73 h
  obtain ⟨j0, j1, j2, j3⟩ := hJ
  have hl : (nG (x.g 6)).length = (x.i 0).toNat * 10 := by rw [j2, List.length_map, se7_len]
  have F0 := F.len0
  have F1 := F.len1
  have base : pcDen (ν.at n7 x) bas7 := by
    refine pcDen_cons (lt_of ?_) (pcDen_cons (lt_of ?_) (pcDen_one (lt_of ?_)))
    · simp only [SI.den, r0, Bool.false_eq_true, iff_false]; omega
    · simp only [SI.den, r0, rf.io 7 (by decide), Bool.false_eq_true, iff_false]; omega
    · rw [rowsSn73 hI, hl]
      simp only [SI.den, Bool.false_eq_true, iff_false]; omega
  have lv : 0 ≤ x.i 1 ∧ x.i 1 < 18446744073709551616 ∧ 0 ≤ x.i 2 ∧ x.i 2 < 18446744073709551616 ∧ 0 ≤ x.i 3 ∧ x.i 3 < 18446744073709551616 → pcDen (ν.at n7 x) liv7 := by
    rintro ⟨b0, b1, b2, b3, b4, b5⟩
    refine pcDen_append (pcDen_append (pcDen_cons (lt_of ?_) (pcDen_one (lt_of ?_))) (pcDen_cons (lt_of ?_) (pcDen_one (lt_of ?_)))) (pcDen_cons (lt_of ?_) (pcDen_one (lt_of ?_)))
    · simp only [SI.den, rf.i 1 (by decide), Bool.false_eq_true, iff_false]; omega
    · simp only [SI.den, rf.i 1 (by decide), iff_true]; omega
    · simp only [SI.den, rf.i 2 (by decide), Bool.false_eq_true, iff_false]; omega
    · simp only [SI.den, rf.i 2 (by decide), iff_true]; omega
    · simp only [SI.den, rf.i 3 (by decide), Bool.false_eq_true, iff_false]; omega
    · simp only [SI.den, rf.i 3 (by decide), iff_true]; omega
  match k, hk with
  | 0, _ =>
    obtain ⟨_, _, _, _, _, _, b⟩ := hSSn73k0.1 j3
    rw [hSn73k0]
    exact pcDen_append (pcDen_append base (lv b)) hold
  | 1, _ =>
    obtain ⟨_, _, _, _, _, _, b⟩ := hSSn73k1.1 j3
    rw [hSn73k1]
    exact pcDen_append (pcDen_append base (lv b)) hold
  | 2, _ =>
    obtain ⟨_, _, _, _, _, _, b⟩ := hSSn73k2.1 j3
    rw [hSn73k2]
    exact pcDen_append (pcDen_append base (lv b)) hold
  | 3, _ =>
    obtain ⟨_, _, _, _, _, _, b⟩ := hSSn73k3.1 j3
    rw [hSn73k3]
    exact pcDen_append (pcDen_append base (lv b)) hold
  | 4, _ => rw [hSn73k4]; exact pcDen_append base hold
end Go.Proofs.Ytlmenjenkpnacaa
end

section
namespace Go.Proofs.Ytlmenjenkpnacaa
open Go Go.Sy Go.RowKit

def ouSn73 : List CLeaf := [
  ⟨false, (.sl (n7 + 6) (.lit 0) qLwSn730 (.var (n7 + 6))), (((.gb 0 (.app 76 (.var (n7 + 6)) (.app 82 (.var 1) (.var 0) (.add (.var 7) (.lit 1)) (.lit 0) (.lit 0) (.lit 0) (.cons (.var 0) (.cons (.var 1) (.cons (.lit 3) (.cons (.lit 0) (.cons (.lit 1) (.cons (.lit 0) (.cons (.lit 0) (.cons (.lit 0) (.cons (.lit 0) (.cons (.lit 0) (.cons (.lit 0) (.cons (.lit 0) .nil))))))))))))) (.lit 0) (.lit 0) (.lit 0) (.lit 0) .nil) (.lit 0) (.lit 0)), true) :: ((.eq qLwSn730 (.add (.var 7) (.lit 1))), true) :: tLwSn731), [(1, (.tab 10 (.var 1) [some .u64, none] (.var 8) (.var 7))), ((n7 + 6), (.res (.app 78 (.var (n7 + 6)) (.var 0) (.lit 121) (.lit 10) (.var (n7 + 6)) (.lit 0) qLwSn733)))]⟩]
theorem oSt7_okSn73 : OOK Try.prog (oSt7 Try.prog) inM := pruned_ok pr (opStoreB_ok pr (opLoadSt_ok (opAppS_ok (opLoadS_ok (opAppendW_ok (opSliceT_ok qO_ok))))))
def oSn73 (P : Program) : Orac := (oSt7 P).withLoopF f7S 3 n7 (e7 P 3).fr (e7 P 3).hp (mkM n7 (g7 P 3) (bd7 P 3))
theorem runSn73 : runX Try.prog (oSn73 Try.prog) f7S (t7 3).args (t7 3).pc (t7 3).hp = some ouSn73 := by kernel_rfl
attribute [local irreducible] nmAt
/-- behind one more round -/
theorem goSn73 {ν : Env Gh} (hI : ν.I = inM) (h : pcDen ν pcSn73) {i : Int} (i0 : 0 ≤ i) (i1 : i ≤ ν.i 7) {k : Nat} (hk : k < 5) {y : Vals Gh} {g : Tgt} (hg : (heads7 Try.prog 3)[k]? = some g) (y0 : y.i 0 = i + 1)
    (yG : nG (y.g 6) = (se7 3 ν (ν.g 1).t (i + 1).toNat).map SC.nums)
    (yS : hS7 3 k (if i < ν.i 7 then st7 3 ν (it7 3 ν (ν.g 1).t i.toNat) (tolds (ν.g 1).t i.toNat).1 (tolds (ν.g 1).t i.toNat).2 else it7 3 ν (ν.g 1).t i.toNat) y) {bnd : Nat} (hm : (ν.i 7 + 1 - y.i 0).toNat < bnd) {Ow : Prop} (ho : Ow) :
    J7 3 k ν y ∧ pcDen (ν.at n7 y) g.pc ∧ (ν.i 7 + 1 - y.i 0).toNat < bnd ∧ Ow := by
  have hJ : J7 3 k ν y := by
    refine ⟨by omega, by omega, by rw [y0]; exact yG, ?_⟩
    rw [y0, it7_next _ _ _ i0 i1]
    exact yS
  refine ⟨hJ, ?_, hm, ho⟩
  have e : g = hd7 Try.prog 3 k := by unfold hd7 hdAt; rw [hg]; rfl
  rw [e]
  exact hpdSn73 hI h hk hJ
theorem owSn73 {ν ν2 : Env Gh} (hI : ν.I = inM) (hI2 : ν2.I = inM) {y : Vals Gh} {g h : SG} {e w c d a b : SI} {ks : SL} (hw : w.den ν2 = 10) (hG : nG (y.g 6) = nG (g.den ν2)) : (SI.gi 17 (.app 78 g h e w c d ks) a b).den ν2 = (rowsS (stN (n7 + 6))).den (ν.at n7 y) := by
  rw [rowsSn73 hI, gi17 hI2, hw, hG]; rfl
/-- behind the last round -/
theorem exitSn73 {ν ν2 : Env Gh} (hI : ν.I = inM) (hI2 : ν2.I = inM) (h : pcDen ν pcSn73) (F0 : 0 ≤ ν.i 7) {x y : Vals Gh} (hi : ν.i 7 < x.i 0) (j0 : 1 ≤ x.i 0) (j1 : x.i 0 ≤ ν.i 7 + 1) (j2 : nG (x.g 6) = (se7 3 ν (ν.g 1).t (x.i 0).toNat).map SC.nums) (hy : y.g 6 = x.g 6) :
    pcDen (ν.at n7 y) [(seen7B (n7 + 6) (beg7 3), true), (.eq (rowsS (stN (n7 + 6))) (.add (.var 7) (.lit 1)), true)] := by
  have rf : RF n7 ν y (ν.at n7 y) := RF.self rfl
  have e : x.i 0 = ν.i 7 + 1 := by omega
  have hl : (nG (y.g 6)).length = (x.i 0).toNat * 10 := by rw [hy, j2, List.length_map, se7_len]
  refine pcDen_cons ?_ (pcDen_one ?_)
  · have h2 : ((beg7 3).den (ν.at n7 y)) = (beg7 3).den ν := by
      simp [beg7, Nat.beq, SL.den, SI.den, rf.io 0 (by decide), rf.io 1 (by decide), rf.io 3 (by decide)]
    have hI3 := rf.I.trans hI
    simp only [seen7B, SB.den, SG.den, SI.den, hI3, inM, xga, SL.den]
    show (nG ((ν.at n7 y).g (n7 + 6)) == List.map SC.nums (seen7 ((beg7 3).den (ν.at n7 y)) ((ν.at n7 y).g 1).t ((ν.at n7 y).i 7 + 1).toNat)) = true
    rw [h2, se7_eq ν (by decide), rf.g 6 (by decide), rf.go 1 (by decide), rf.io 7 (by decide), hy, j2, e]
    exact beq_self_eq_true _
  · simp only [SB.den, beq_iff_eq]
    rw [rowsSn73 hI, hl]
    simp only [SI.den, rf.io 7 (by decide)]
    omega
theorem loopSn73 {O' : Orac} (oo' : OOK Try.prog O' inM) : OOK Try.prog (O'.withLoop f7S 3 n7 (e7 Try.prog 3).fr (e7 Try.prog 3).hp (mkM n7 (g7 Try.prog 3) (bd7 Try.prog 3))) inM := by
  have hb : ∀ {ν : Env Gh}, (∀ x ∈ bd7 Try.prog 3, x.1.den ν ≠ x.2) → pcDen ν pcSn73 := fun h => by unfold bd7 at h; rw [pcSn73_eq] at h; exact bads_of h
  refine loopF_ok pr oSt7_okSn73 (rfl : n7 = nmAt 3) (by decide +kernel) oneSn73 (heads := heads7 Try.prog 3) (tg := g7 Try.prog 3) (sums := [[([], sSn73k0c0)], [([], sSn73k1c0)], [([], sSn73k2c0)], [([], sSn73k3c0)], [([], sSn73k4c0)]]) (sums0 := sums0Sn73) (n := 6000) (it := 0) (ghL []) rfl ?_ b0Sn73 (J7 3) (fun _ ν x => (ν.i 7 + 1 - x.i 0).toNat) (fun ν => (ν.i 7 + 1).toNat) ?_ ?_ ?_ oo'
  · intro i h ss hh hs c hc
    match i, hh, hs with
    | 0, hh, hs =>
      cases hs
      have e : h = hd7 Try.prog 3 0 := by unfold hd7 hdAt; rw [hh]; rfl
      subst e
      simp only [List.mem_singleton] at hc
      subst hc
      exact bSn73k0c0
    | 1, hh, hs =>
      cases hs
      have e : h = hd7 Try.prog 3 1 := by unfold hd7 hdAt; rw [hh]; rfl
      subst e
      simp only [List.mem_singleton] at hc
      subst hc
      exact bSn73k1c0
    | 2, hh, hs =>
      cases hs
      have e : h = hd7 Try.prog 3 2 := by unfold hd7 hdAt; rw [hh]; rfl
      subst e
      simp only [List.mem_singleton] at hc
      subst hc
      exact bSn73k2c0
    | 3, hh, hs =>
      cases hs
      have e : h = hd7 Try.prog 3 3 := by unfold hd7 hdAt; rw [hh]; rfl
      subst e
      simp only [List.mem_singleton] at hc
      subst hc
      exact bSn73k3c0
    | 4, hh, hs =>
      cases hs
      have e : h = hd7 Try.prog 3 4 := by unfold hd7 hdAt; rw [hh]; rfl
      subst e
      simp only [List.mem_singleton] at hc
      subst hc
      exact bSn73k4c0
    | n + 5, hh, hs => cases hs
  · intro t ht ν ν2 hI h rf hpc
    have hp' := hb h
    have F := factsSn73 hI hp'
    have F_len0 := F.len0
    have F_len1 := F.len1
    have F_a0 := F.a0
    have F_a1 := F.a1
    have F_n1 := F.n1
    have F_n2 := F.n2
    have F_pw := F.pw
    have F_v0 := F.v0
    have F_v1 := F.v1
    have F0 := F.len0
    have F1 := F.len1
    have hI2 : ν2.I = inM := rf.I.trans hI
    have qa : ν2.i 0 = ν.i 0 := rf.io 0 (by decide)
    have qn : ν2.i 1 = ν.i 1 := rf.io 1 (by decide)
    have qc : ν2.i 3 = ν.i 3 := rf.io 3 (by decide)
    have q7 : ν2.i 7 = ν.i 7 := rf.io 7 (by decide)
    have qg : ν2.g 1 = ν.g 1 := rf.go 1 (by decide)
    have T0 := F.told 0
    have hs : it7 3 ν (ν.g 1).t (0 : Int).toNat = s7 3 := rfl
    have eT : ((0 : Int) + 1).toNat = (0 : Int).toNat + 1 := rfl
    simp only [sums0Sn73, qLwSn730, tLwSn731, qLwSn733, qLwSn735, List.mem_cons, List.not_mem_nil, or_false] at ht
    rcases ht with rfl | rfl
    · intro g hg
      dsimp only at hg ⊢
      simp only [pcDen_cons_iff, pcDen_nil_iff, SB.den, decide_eq_true_eq, decide_eq_false_iff_not, beq_iff_eq, beq_eq_false_iff_ne] at hpc
      simp only [SI.den, SG.den, gi10u hI2, gb11u hI2, q7, qn, qa, qg, Int.toNat_zero] at hpc
      generalize hy : Mt.vals _ (ghL []) ν2 = y
      have y0 : y.i 0 = 0 + 1 := by rw [← hy]; simp only [Mt.vals, lkp_cons, lkp_nil, Nat.reduceEqDiff, reduceIte, SI.den]; rfl
      have yG : nG (y.g 6) = (se7 3 ν (ν.g 1).t ((0 : Int) + 1).toNat).map SC.nums := by
        rw [eT, se7_succ, List.map_append, hs, ← hy]
        simp only [Mt.vals, lkp_cons, lkp_nil, Nat.reduceEqDiff, reduceIte]
        simp [nG73 hI2, nG1 hI2, SI.den, SL.den, s7, dn7_0, dn7_1, dn7_2, dn7_3, ob7, p7, tk7, kI, A7.obs, seenC, cI, cU, cB, cN, cL, SC.nums, se7, seenR_zero, qa, qn, qc]
      refine goSn73 hI hp' (Int.le_refl 0) F0 (by decide) hg y0 yG ?_ (by omega) ?_
      · refine hSSn73k1.2 ?_
        simp only [hs]
        simp only [← hy, Mt.vals, lkp_cons, lkp_nil, Nat.reduceEqDiff, reduceIte, SI.den, SG.den, gi10u hI2, qg, qc, Int.toNat_zero, IntKind.wrap_u64]
        (first | rw [if_pos (by omega)] | rw [if_neg (by omega)])
        first
          | (simp [s7, dn7_0, dn7_1, dn7_2, dn7_3, st7, p7, kI, A7.step, A7.fin]; done)
          | (simp [s7, dn7_0, dn7_1, dn7_2, dn7_3, st7, p7, kI, A7.step, A7.fin] <;> omega)
      constructor
      · intro z hz
        simp only [List.mem_cons, List.not_mem_nil, or_false] at hz
        subst hz
        exact owSn73 hI hI2 (by simp only [SI.den]) (by rw [← hy]; simp only [Mt.vals, lkp_cons, lkp_nil, Nat.reduceEqDiff, reduceIte])
      · simp
      · simp
      · simp
    · intro g hg
      dsimp only at hg ⊢
      simp only [pcDen_cons_iff, pcDen_nil_iff, SB.den, decide_eq_true_eq, decide_eq_false_iff_not, beq_iff_eq, beq_eq_false_iff_ne] at hpc
      simp only [SI.den, SG.den, gi10u hI2, gb11u hI2, q7, qn, qa, qg, Int.toNat_zero] at hpc
      generalize hy : Mt.vals _ (ghL []) ν2 = y
      have y0 : y.i 0 = 0 + 1 := by rw [← hy]; simp only [Mt.vals, lkp_cons, lkp_nil, Nat.reduceEqDiff, reduceIte, SI.den]; rfl
      have yG : nG (y.g 6) = (se7 3 ν (ν.g 1).t ((0 : Int) + 1).toNat).map SC.nums := by
        rw [eT, se7_succ, List.map_append, hs, ← hy]
        simp only [Mt.vals, lkp_cons, lkp_nil, Nat.reduceEqDiff, reduceIte]
        simp [nG73 hI2, nG1 hI2, SI.den, SL.den, s7, dn7_0, dn7_1, dn7_2, dn7_3, ob7, p7, tk7, kI, A7.obs, seenC, cI, cU, cB, cN, cL, SC.nums, se7, seenR_zero, qa, qn, qc]
      refine goSn73 hI hp' (Int.le_refl 0) F0 (by decide) hg y0 yG ?_ (by omega) ?_
      · refine hSSn73k0.2 ?_
        simp only [hs]
        simp only [← hy, Mt.vals, lkp_cons, lkp_nil, Nat.reduceEqDiff, reduceIte, SI.den, SG.den, gi10u hI2, qg, qc, Int.toNat_zero, IntKind.wrap_u64]
        (first | rw [if_pos (by omega)] | rw [if_neg (by omega)])
        first
          | (simp [s7, dn7_0, dn7_1, dn7_2, dn7_3, st7, p7, kI, A7.step, A7.fin]; done)
          | (simp [s7, dn7_0, dn7_1, dn7_2, dn7_3, st7, p7, kI, A7.step, A7.fin] <;> omega)
      constructor
      · intro z hz
        simp only [List.mem_cons, List.not_mem_nil, or_false] at hz
        subst hz
        exact owSn73 hI hI2 (by simp only [SI.den]) (by rw [← hy]; simp only [Mt.vals, lkp_cons, lkp_nil, Nat.reduceEqDiff, reduceIte])
      · simp
      · simp
      · simp
  · intro i h ss hh hs ν x _ _ _ _
    match i, hs with
    | 0, hs => cases hs; exact ⟨_, List.mem_singleton.2 rfl, pcDen_nil _⟩
    | 1, hs => cases hs; exact ⟨_, List.mem_singleton.2 rfl, pcDen_nil _⟩
    | 2, hs => cases hs; exact ⟨_, List.mem_singleton.2 rfl, pcDen_nil _⟩
    | 3, hs => cases hs; exact ⟨_, List.mem_singleton.2 rfl, pcDen_nil _⟩
    | 4, hs => cases hs; exact ⟨_, List.mem_singleton.2 rfl, pcDen_nil _⟩
    | n + 5, hs => cases hs
  · intro i h ss hh hs c hc t ht ν x ν2 hI hbad hJ hpch _ rf hpc
    have hp' := hb hbad
    have F := factsSn73 hI hp'
    have F_len0 := F.len0
    have F_len1 := F.len1
    have F_a0 := F.a0
    have F_a1 := F.a1
    have F_n1 := F.n1
    have F_n2 := F.n2
    have F_pw := F.pw
    have F_v0 := F.v0
    have F_v1 := F.v1
    have F0 := F.len0
    have F1 := F.len1
    have hI2 : ν2.I = inM := rf.I.trans hI
    have qa : ν2.i 0 = ν.i 0 := rf.io 0 (by decide)
    have qn : ν2.i 1 = ν.i 1 := rf.io 1 (by decide)
    have qc : ν2.i 3 = ν.i 3 := rf.io 3 (by decide)
    have q7 : ν2.i 7 = ν.i 7 := rf.io 7 (by decide)
    have qg : ν2.g 1 = ν.g 1 := rf.go 1 (by decide)
    have q0 : ν2.i (n7 + 0) = x.i 0 := rf.i 0 (by decide)
    have q1 : ν2.i (n7 + 1) = x.i 1 := rf.i 1 (by decide)
    have q2 : ν2.i (n7 + 2) = x.i 2 := rf.i 2 (by decide)
    have q3 : ν2.i (n7 + 3) = x.i 3 := rf.i 3 (by decide)
    have q4 : ν2.i (n7 + 4) = x.i 4 := rf.i 4 (by decide)
    have q5 : ν2.i (n7 + 5) = x.i 5 := rf.i 5 (by decide)
    have qG : ν2.g (n7 + 6) = x.g 6 := rf.g 6 (by decide)
    obtain ⟨j0, j1, j2, j3⟩ := hJ
    have T0 := F.told (x.i 0).toNat
    have eT : (x.i 0 + 1).toNat = (x.i 0).toNat + 1 := by omega
    match i, hh, hs with
    | 0, hh, hs =>
      cases hs
      simp only [List.mem_singleton] at hc
      subst hc
      simp only [sSn73k0c0, tLwSn730, qLwSn730, qLwSn733, qLwSn737, List.mem_cons, List.not_mem_nil, or_false] at ht
      rcases ht with rfl | rfl | rfl
      all_goals
        simp only [pcDen_cons_iff, pcDen_nil_iff, SB.den, decide_eq_true_eq, decide_eq_false_iff_not, beq_iff_eq, beq_eq_false_iff_ne] at hpc
        simp only [SI.den, SG.den, gi10u hI2, gb11u hI2, q7, qn, qa, qg, q0, q1, q2, q3, w64_64] at hpc
        generalize hy : Mt.vals _ (ghL []) ν2 = y
      rotate_left 2
      · have y6 : y.g 6 = x.g 6 := by rw [← hy]; simp only [Mt.vals, lkp_cons, lkp_nil, Nat.reduceEqDiff, reduceIte, SG.den, qG]
        refine ⟨fun g hg => ?_, ?_⟩
        · cases hg
          exact exitSn73 hI hI2 hp' F0 (by omega) j0 j1 j2 y6
        constructor
        · intro z hz
          simp only [List.mem_cons, List.not_mem_nil, or_false] at hz
          subst hz
          exact owSn73 hI hI2 (by simp only [SI.den]) (by rw [y6]; simp only [SG.den, qG])
        · simp
        · simp
        · simp
      all_goals
        intro g hg
        dsimp only at hg ⊢
        have hle : x.i 0 ≤ ν.i 7 := by omega
        have em : (min (x.i 0) (ν.i 7)).toNat = (x.i 0).toNat := by omega
        rw [em] at j3
        generalize hS : it7 3 ν (ν.g 1).t (x.i 0).toNat = S at j3
        obtain ⟨st, b, t, xx, wn, dn', cd, v⟩ := S
        obtain ⟨d1, d2, d3, d4, d5, d6, b0, b1, b2, b3, b4, b5⟩ := hSSn73k0.1 j3
        dsimp only at d1 d2 d3 d4 d5 d6
        subst d1 d2 d3 d4 d5 d6
        have tm1 : (x.i 1).tmod (ν.i 1) = x.i 1 % ν.i 1 := Int.tmod_eq_emod_of_nonneg b0
        have tm2 : (x.i 2).tmod (ν.i 1) = x.i 2 % ν.i 1 := Int.tmod_eq_emod_of_nonneg b2
        have y0 : y.i 0 = x.i 0 + 1 := by rw [← hy]; simp only [Mt.vals, lkp_cons, lkp_nil, Nat.reduceEqDiff, reduceIte, SI.den, q0]
        have yG : nG (y.g 6) = (se7 3 ν (ν.g 1).t (x.i 0 + 1).toNat).map SC.nums := by
          rw [eT, se7_succ, List.map_append, ← j2, hS, ← hy]
          simp only [Mt.vals, lkp_cons, lkp_nil, Nat.reduceEqDiff, reduceIte]
          simp only [nG73 hI2]
          simp only [SI.den, SL.den, SG.den, qG, qa, qn, qc, q1, q2, q3, q4, q5, tm1, tm2, IntKind.wrap_u64]
          first
            | (exfalso; omega)
            | (simp [ob7, p7, tk7, kI, A7.obs, A7.ahead, seenC, cI, cU, cB, cN, cL, SC.nums]; done)
        refine goSn73 hI hp' (by omega) hle (by decide) hg y0 yG ?_ (by omega) ?_
        rotate_left
        · constructor
          · intro z hz
            simp only [List.mem_cons, List.not_mem_nil, or_false] at hz
            subst hz
            exact owSn73 hI hI2 (by simp only [SI.den]) (by rw [← hy]; simp only [Mt.vals, lkp_cons, lkp_nil, Nat.reduceEqDiff, reduceIte])
          · simp
          · simp
          · simp
        first | refine hSSn73k1.2 ?_ | refine hSSn73k0.2 ?_
        all_goals
          simp only [hS]
          simp only [← hy, Mt.vals, lkp_cons, lkp_nil, Nat.reduceEqDiff, reduceIte, SI.den, SG.den, gi10u hI2, qg, qc, q0, q1, q2, q3, q4, q5, IntKind.wrap_u64]
          (first | rw [if_pos (by omega)] | rw [if_neg (by omega)])
          (generalize tolds (ν.g 1).t (x.i 0).toNat = T at * ; obtain ⟨tv, tw⟩ := T; dsimp only at * ; cases tw <;> first
            | (exfalso; omega)
            | (exfalso; simp at hpc; done)
            | (simp [st7, p7, tk7, kI, A7.step, A7.fin, A7.ahead]; done)
            | (simp [st7, p7, tk7, kI, A7.step, A7.fin, A7.ahead] <;> omega))
    | 1, hh, hs =>
      cases hs
      simp only [List.mem_singleton] at hc
      subst hc
      simp only [sSn73k1c0, tLwSn730, qLwSn730, qLwSn732, qLwSn733, List.mem_cons, List.not_mem_nil, or_false] at ht
      rcases ht with rfl | rfl | rfl | rfl
      all_goals
        simp only [pcDen_cons_iff, pcDen_nil_iff, SB.den, decide_eq_true_eq, decide_eq_false_iff_not, beq_iff_eq, beq_eq_false_iff_ne] at hpc
        simp only [SI.den, SG.den, gi10u hI2, gb11u hI2, q7, qn, qa, qg, q0, q1, q2, q3, w64_64] at hpc
        generalize hy : Mt.vals _ (ghL []) ν2 = y
      rotate_left 3
      · have y6 : y.g 6 = x.g 6 := by rw [← hy]; simp only [Mt.vals, lkp_cons, lkp_nil, Nat.reduceEqDiff, reduceIte, SG.den, qG]
        refine ⟨fun g hg => ?_, ?_⟩
        · cases hg
          exact exitSn73 hI hI2 hp' F0 (by omega) j0 j1 j2 y6
        constructor
        · intro z hz
          simp only [List.mem_cons, List.not_mem_nil, or_false] at hz
          subst hz
          exact owSn73 hI hI2 (by simp only [SI.den]) (by rw [y6]; simp only [SG.den, qG])
        · simp
        · simp
        · simp
      all_goals
        intro g hg
        dsimp only at hg ⊢
        have hle : x.i 0 ≤ ν.i 7 := by omega
        have em : (min (x.i 0) (ν.i 7)).toNat = (x.i 0).toNat := by omega
        rw [em] at j3
        generalize hS : it7 3 ν (ν.g 1).t (x.i 0).toNat = S at j3
        obtain ⟨st, b, t, xx, wn, dn', cd, v⟩ := S
        obtain ⟨d1, d2, d3, d4, d5, d6, b0, b1, b2, b3, b4, b5⟩ := hSSn73k1.1 j3
        dsimp only at d1 d2 d3 d4 d5 d6
        subst d1 d2 d3 d4 d5 d6
        have tm1 : (x.i 1).tmod (ν.i 1) = x.i 1 % ν.i 1 := Int.tmod_eq_emod_of_nonneg b0
        have tm2 : (x.i 2).tmod (ν.i 1) = x.i 2 % ν.i 1 := Int.tmod_eq_emod_of_nonneg b2
        have y0 : y.i 0 = x.i 0 + 1 := by rw [← hy]; simp only [Mt.vals, lkp_cons, lkp_nil, Nat.reduceEqDiff, reduceIte, SI.den, q0]
        have yG : nG (y.g 6) = (se7 3 ν (ν.g 1).t (x.i 0 + 1).toNat).map SC.nums := by
          rw [eT, se7_succ, List.map_append, ← j2, hS, ← hy]
          simp only [Mt.vals, lkp_cons, lkp_nil, Nat.reduceEqDiff, reduceIte]
          simp only [nG73 hI2]
          simp only [SI.den, SL.den, SG.den, qG, qa, qn, qc, q1, q2, q3, q4, q5, tm1, tm2, IntKind.wrap_u64]
          by_cases h0 : IntKind.i64.wrap ((tolds (ν.g 1).t (x.i 0).toNat).1 - x.i 2) < 1 <;> first
            | (exfalso; omega)
            | (simp [ob7, p7, tk7, kI, A7.obs, A7.ahead, seenC, cI, cU, cB, cN, cL, SC.nums, h0]; done)
        refine goSn73 hI hp' (by omega) hle (by decide) hg y0 yG ?_ (by omega) ?_
        rotate_left
        · constructor
          · intro z hz
            simp only [List.mem_cons, List.not_mem_nil, or_false] at hz
            subst hz
            exact owSn73 hI hI2 (by simp only [SI.den]) (by rw [← hy]; simp only [Mt.vals, lkp_cons, lkp_nil, Nat.reduceEqDiff, reduceIte])
          · simp
          · simp
          · simp
        first | refine hSSn73k4.2 ?_ | refine hSSn73k2.2 ?_ | refine hSSn73k1.2 ?_
        all_goals
          simp only [hS]
          simp only [← hy, Mt.vals, lkp_cons, lkp_nil, Nat.reduceEqDiff, reduceIte, SI.den, SG.den, gi10u hI2, qg, qc, q0, q1, q2, q3, q4, q5, IntKind.wrap_u64]
          (first | rw [if_pos (by omega)] | rw [if_neg (by omega)])
          by_cases h0 : IntKind.i64.wrap ((tolds (ν.g 1).t (x.i 0).toNat).1 - x.i 2) < 1 <;> (generalize tolds (ν.g 1).t (x.i 0).toNat = T at * ; obtain ⟨tv, tw⟩ := T; dsimp only at * ; cases tw <;> first
            | (exfalso; omega)
            | (exfalso; simp at hpc; done)
            | (simp [st7, p7, tk7, kI, A7.step, A7.fin, A7.ahead, h0]; done)
            | (simp [st7, p7, tk7, kI, A7.step, A7.fin, A7.ahead, h0] <;> omega))
    | 2, hh, hs =>
      cases hs
      simp only [List.mem_singleton] at hc
      subst hc
      simp only [sSn73k2c0, tLwSn730, qLwSn730, qLwSn733, qLwSn734, List.mem_cons, List.not_mem_nil, or_false] at ht
      rcases ht with rfl | rfl | rfl
      all_goals
        simp only [pcDen_cons_iff, pcDen_nil_iff, SB.den, decide_eq_true_eq, decide_eq_false_iff_not, beq_iff_eq, beq_eq_false_iff_ne] at hpc
        simp only [SI.den, SG.den, gi10u hI2, gb11u hI2, q7, qn, qa, qg, q0, q1, q2, q3, w64_64] at hpc
        generalize hy : Mt.vals _ (ghL []) ν2 = y
      rotate_left 2
      · have y6 : y.g 6 = x.g 6 := by rw [← hy]; simp only [Mt.vals, lkp_cons, lkp_nil, Nat.reduceEqDiff, reduceIte, SG.den, qG]
        refine ⟨fun g hg => ?_, ?_⟩
        · cases hg
          exact exitSn73 hI hI2 hp' F0 (by omega) j0 j1 j2 y6
        constructor
        · intro z hz
          simp only [List.mem_cons, List.not_mem_nil, or_false] at hz
          subst hz
          exact owSn73 hI hI2 (by simp only [SI.den]) (by rw [y6]; simp only [SG.den, qG])
        · simp
        · simp
        · simp
      all_goals
        intro g hg
        dsimp only at hg ⊢
        have hle : x.i 0 ≤ ν.i 7 := by omega
        have em : (min (x.i 0) (ν.i 7)).toNat = (x.i 0).toNat := by omega
        rw [em] at j3
        generalize hS : it7 3 ν (ν.g 1).t (x.i 0).toNat = S at j3
        obtain ⟨st, b, t, xx, wn, dn', cd, v⟩ := S
        obtain ⟨d1, d2, d3, d4, d5, d6, b0, b1, b2, b3, b4, b5⟩ := hSSn73k2.1 j3
        dsimp only at d1 d2 d3 d4 d5 d6
        subst d1 d2 d3 d4 d5 d6
        have tm1 : (x.i 1).tmod (ν.i 1) = x.i 1 % ν.i 1 := Int.tmod_eq_emod_of_nonneg b0
        have tm2 : (x.i 2).tmod (ν.i 1) = x.i 2 % ν.i 1 := Int.tmod_eq_emod_of_nonneg b2
        have y0 : y.i 0 = x.i 0 + 1 := by rw [← hy]; simp only [Mt.vals, lkp_cons, lkp_nil, Nat.reduceEqDiff, reduceIte, SI.den, q0]
        have yG : nG (y.g 6) = (se7 3 ν (ν.g 1).t (x.i 0 + 1).toNat).map SC.nums := by
          rw [eT, se7_succ, List.map_append, ← j2, hS, ← hy]
          simp only [Mt.vals, lkp_cons, lkp_nil, Nat.reduceEqDiff, reduceIte]
          simp only [nG73 hI2]
          simp only [SI.den, SL.den, SG.den, qG, qa, qn, qc, q1, q2, q3, q4, q5, tm1, tm2, IntKind.wrap_u64]
          first
            | (exfalso; omega)
            | (simp [ob7, p7, tk7, kI, A7.obs, A7.ahead, seenC, cI, cU, cB, cN, cL, SC.nums]; done)
        refine goSn73 hI hp' (by omega) hle (by decide) hg y0 yG ?_ (by omega) ?_
        rotate_left
        · constructor
          · intro z hz
            simp only [List.mem_cons, List.not_mem_nil, or_false] at hz
            subst hz
            exact owSn73 hI hI2 (by simp only [SI.den]) (by rw [← hy]; simp only [Mt.vals, lkp_cons, lkp_nil, Nat.reduceEqDiff, reduceIte])
          · simp
          · simp
          · simp
        first | refine hSSn73k3.2 ?_ | refine hSSn73k2.2 ?_
        all_goals
          simp only [hS]
          simp only [← hy, Mt.vals, lkp_cons, lkp_nil, Nat.reduceEqDiff, reduceIte, SI.den, SG.den, gi10u hI2, qg, qc, q0, q1, q2, q3, q4, q5, IntKind.wrap_u64]
          (first | rw [if_pos (by omega)] | rw [if_neg (by omega)])
          (generalize tolds (ν.g 1).t (x.i 0).toNat = T at * ; obtain ⟨tv, tw⟩ := T; dsimp only at * ; cases tw <;> first
            | (exfalso; omega)
            | (exfalso; simp at hpc; done)
            | (simp [st7, p7, tk7, kI, A7.step, A7.fin, A7.ahead]; done)
            | (simp [st7, p7, tk7, kI, A7.step, A7.fin, A7.ahead] <;> omega))
    | 3, hh, hs =>
      cases hs
      simp only [List.mem_singleton] at hc
      subst hc
      simp only [sSn73k3c0, tLwSn730, qLwSn730, qLwSn731, qLwSn733, List.mem_cons, List.not_mem_nil, or_false] at ht
      rcases ht with rfl | rfl | rfl | rfl
      all_goals
        simp only [pcDen_cons_iff, pcDen_nil_iff, SB.den, decide_eq_true_eq, decide_eq_false_iff_not, beq_iff_eq, beq_eq_false_iff_ne] at hpc
        simp only [SI.den, SG.den, gi10u hI2, gb11u hI2, q7, qn, qa, qg, q0, q1, q2, q3, w64_64] at hpc
        generalize hy : Mt.vals _ (ghL []) ν2 = y
      rotate_left 3
      · have y6 : y.g 6 = x.g 6 := by rw [← hy]; simp only [Mt.vals, lkp_cons, lkp_nil, Nat.reduceEqDiff, reduceIte, SG.den, qG]
        refine ⟨fun g hg => ?_, ?_⟩
        · cases hg
          exact exitSn73 hI hI2 hp' F0 (by omega) j0 j1 j2 y6
        constructor
        · intro z hz
          simp only [List.mem_cons, List.not_mem_nil, or_false] at hz
          subst hz
          exact owSn73 hI hI2 (by simp only [SI.den]) (by rw [y6]; simp only [SG.den, qG])
        · simp
        · simp
        · simp
      all_goals
        intro g hg
        dsimp only at hg ⊢
        have hle : x.i 0 ≤ ν.i 7 := by omega
        have em : (min (x.i 0) (ν.i 7)).toNat = (x.i 0).toNat := by omega
        rw [em] at j3
        generalize hS : it7 3 ν (ν.g 1).t (x.i 0).toNat = S at j3
        obtain ⟨st, b, t, xx, wn, dn', cd, v⟩ := S
        obtain ⟨d1, d2, d3, d4, d5, d6, b0, b1, b2, b3, b4, b5⟩ := hSSn73k3.1 j3
        dsimp only at d1 d2 d3 d4 d5 d6
        subst d1 d2 d3 d4 d5 d6
        have tm1 : (x.i 1).tmod (ν.i 1) = x.i 1 % ν.i 1 := Int.tmod_eq_emod_of_nonneg b0
        have tm2 : (x.i 2).tmod (ν.i 1) = x.i 2 % ν.i 1 := Int.tmod_eq_emod_of_nonneg b2
        have y0 : y.i 0 = x.i 0 + 1 := by rw [← hy]; simp only [Mt.vals, lkp_cons, lkp_nil, Nat.reduceEqDiff, reduceIte, SI.den, q0]
        have yG : nG (y.g 6) = (se7 3 ν (ν.g 1).t (x.i 0 + 1).toNat).map SC.nums := by
          rw [eT, se7_succ, List.map_append, ← j2, hS, ← hy]
          simp only [Mt.vals, lkp_cons, lkp_nil, Nat.reduceEqDiff, reduceIte]
          simp only [nG73 hI2]
          simp only [SI.den, SL.den, SG.den, qG, qa, qn, qc, q1, q2, q3, q4, q5, tm1, tm2, IntKind.wrap_u64]
          first
            | (exfalso; omega)
            | (simp [ob7, p7, tk7, kI, A7.obs, A7.ahead, seenC, cI, cU, cB, cN, cL, SC.nums]; done)
        refine goSn73 hI hp' (by omega) hle (by decide) hg y0 yG ?_ (by omega) ?_
        rotate_left
        · constructor
          · intro z hz
            simp only [List.mem_cons, List.not_mem_nil, or_false] at hz
            subst hz
            exact owSn73 hI hI2 (by simp only [SI.den]) (by rw [← hy]; simp only [Mt.vals, lkp_cons, lkp_nil, Nat.reduceEqDiff, reduceIte])
          · simp
          · simp
          · simp
        first | refine hSSn73k4.2 ?_ | refine hSSn73k3.2 ?_
        all_goals
          simp only [hS]
          simp only [← hy, Mt.vals, lkp_cons, lkp_nil, Nat.reduceEqDiff, reduceIte, SI.den, SG.den, gi10u hI2, qg, qc, q0, q1, q2, q3, q4, q5, IntKind.wrap_u64]
          (first | rw [if_pos (by omega)] | rw [if_neg (by omega)])
          (generalize tolds (ν.g 1).t (x.i 0).toNat = T at * ; obtain ⟨tv, tw⟩ := T; dsimp only at * ; cases tw <;> first
            | (exfalso; omega)
            | (exfalso; simp at hpc; done)
            | (simp [st7, p7, tk7, kI, A7.step, A7.fin, A7.ahead]; done)
            | (simp [st7, p7, tk7, kI, A7.step, A7.fin, A7.ahead] <;> omega))
    | 4, hh, hs =>
      cases hs
      simp only [List.mem_singleton] at hc
      subst hc
      simp only [sSn73k4c0, qLwSn730, tLwSn731, qLwSn733, qLwSn736, List.mem_cons, List.not_mem_nil, or_false] at ht
      rcases ht with rfl | rfl | rfl
      all_goals
        simp only [pcDen_cons_iff, pcDen_nil_iff, SB.den, decide_eq_true_eq, decide_eq_false_iff_not, beq_iff_eq, beq_eq_false_iff_ne] at hpc
        simp only [SI.den, SG.den, gi10u hI2, gb11u hI2, q7, qn, qa, qg, q0, q1, q2, q3, w64_64] at hpc
        generalize hy : Mt.vals _ (ghL []) ν2 = y
      rotate_left 2
      · have y6 : y.g 6 = x.g 6 := by rw [← hy]; simp only [Mt.vals, lkp_cons, lkp_nil, Nat.reduceEqDiff, reduceIte, SG.den, qG]
        refine ⟨fun g hg => ?_, ?_⟩
        · cases hg
          exact exitSn73 hI hI2 hp' F0 (by omega) j0 j1 j2 y6
        constructor
        · intro z hz
          simp only [List.mem_cons, List.not_mem_nil, or_false] at hz
          subst hz
          exact owSn73 hI hI2 (by simp only [SI.den]) (by rw [y6]; simp only [SG.den, qG])
        · simp
        · simp
        · simp
      all_goals
        intro g hg
        dsimp only at hg ⊢
        have hle : x.i 0 ≤ ν.i 7 := by omega
        have em : (min (x.i 0) (ν.i 7)).toNat = (x.i 0).toNat := by omega
        rw [em] at j3
        generalize hS : it7 3 ν (ν.g 1).t (x.i 0).toNat = S at j3
        obtain ⟨st, b, t, xx, wn, dn', cd, v⟩ := S
        obtain ⟨d1, d2, d3⟩ := hSSn73k4.1 j3
        dsimp only at d1 d2 d3
        subst d1 d2 d3
        have y0 : y.i 0 = x.i 0 + 1 := by rw [← hy]; simp only [Mt.vals, lkp_cons, lkp_nil, Nat.reduceEqDiff, reduceIte, SI.den, q0]
        have yG : nG (y.g 6) = (se7 3 ν (ν.g 1).t (x.i 0 + 1).toNat).map SC.nums := by
          rw [eT, se7_succ, List.map_append, ← j2, hS, ← hy]
          simp only [Mt.vals, lkp_cons, lkp_nil, Nat.reduceEqDiff, reduceIte]
          simp only [nG73 hI2]
          simp only [SI.den, SL.den, SG.den, qG, qa, qn, qc, q1, q2, q3, q4, q5, IntKind.wrap_u64]
          first
            | (exfalso; omega)
            | (simp [ob7, p7, tk7, kI, A7.obs, A7.ahead, seenC, cI, cU, cB, cN, cL, SC.nums]; done)
        refine goSn73 hI hp' (by omega) hle (by decide) hg y0 yG ?_ (by omega) ?_
        rotate_left
        · constructor
          · intro z hz
            simp only [List.mem_cons, List.not_mem_nil, or_false] at hz
            subst hz
            exact owSn73 hI hI2 (by simp only [SI.den]) (by rw [← hy]; simp only [Mt.vals, lkp_cons, lkp_nil, Nat.reduceEqDiff, reduceIte])
          · simp
          · simp
          · simp
        refine hSSn73k4.2 ?_
        all_goals
          simp only [hS]
          simp only [← hy, Mt.vals, lkp_cons, lkp_nil, Nat.reduceEqDiff, reduceIte, SI.den, SG.den, gi10u hI2, qg, qc, q0, q1, q2, q3, q4, q5, IntKind.wrap_u64]
          (first | rw [if_pos (by omega)] | rw [if_neg (by omega)])
          (generalize tolds (ν.g 1).t (x.i 0).toNat = T at * ; obtain ⟨tv, tw⟩ := T; dsimp only at * ; cases tw <;> first
            | (exfalso; omega)
            | (exfalso; simp at hpc; done)
            | (simp [st7, p7, tk7, kI, A7.step, A7.fin, A7.ahead]; done)
            | (simp [st7, p7, tk7, kI, A7.step, A7.fin, A7.ahead] <;> omega))
    | n + 5, hh, hs => cases hs
theorem oSn73_ok : OOK Try.prog (oSn73 Try.prog) inM := withLoopF_ok oSt7_okSn73 (loopSn73 oSt7_okSn73)
end Go.Proofs.Ytlmenjenkpnacaa
end
