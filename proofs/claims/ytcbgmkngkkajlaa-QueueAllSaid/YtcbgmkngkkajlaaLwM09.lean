/- Those calls as an oracle. (Printed by memo.py.) -/
import Derived.Test.YtcbgmkngkkajlaaLwM091
import Derived.Test.YtcbgmkngkkajlaaLwM092
import Derived.Test.YtcbgmkngkkajlaaLwM093
import Derived.Test.YtcbgmkngkkajlaaLwM094
set_option linter.unusedVariables false
set_option linter.unusedSimpArgs false

section
namespace Go.Proofs.Ytcbgmkngkkajlaa
open Go Go.Sy Go.RowKit

def msM09 : List (Nat × Tmpl × List CLeaf) := [(0, tM09_0, oM09_0), (1, tM09_1, oM09_1), (2, tM09_2, oM09_2), (3, tM09_3, oM09_3), (4, tM09_4, oM09_4), (5, tM09_5, oM09_5), (6, tM09_6, oM09_6), (7, tM09_7, oM09_7), (8, tM09_8, oM09_8), (9, tM09_9, oM09_9), (10, tM09_10, oM09_10), (11, tM09_11, oM09_11), (12, tM09_12, oM09_12), (13, tM09_13, oM09_13), (14, tM09_14, oM09_14), (15, tM09_15, oM09_15), (16, tM09_16, oM09_16), (17, tM09_17, oM09_17), (18, tM09_18, oM09_18), (19, tM09_19, oM09_19), (20, tM09_20, oM09_20), (21, tM09_21, oM09_21), (22, tM09_22, oM09_22), (23, tM09_23, oM09_23), (24, tM09_24, oM09_24), (25, tM09_25, oM09_25), (26, tM09_26, oM09_26), (27, tM09_27, oM09_27), (28, tM09_28, oM09_28), (29, tM09_29, oM09_29), (30, tM09_30, oM09_30), (31, tM09_31, oM09_31), (32, tM09_32, oM09_32), (33, tM09_33, oM09_33), (34, tM09_34, oM09_34), (35, tM09_35, oM09_35), (36, tM09_36, oM09_36), (37, tM09_37, oM09_37), (38, tM09_38, oM09_38), (39, tM09_39, oM09_39), (40, tM09_40, oM09_40), (41, tM09_41, oM09_41), (42, tM09_42, oM09_42), (43, tM09_43, oM09_43), (44, tM09_44, oM09_44), (45, tM09_45, oM09_45), (46, tM09_46, oM09_46), (47, tM09_47, oM09_47), (48, tM09_48, oM09_48), (49, tM09_49, oM09_49), (50, tM09_50, oM09_50), (51, tM09_51, oM09_51), (52, tM09_52, oM09_52), (53, tM09_53, oM09_53), (54, tM09_54, oM09_54), (55, tM09_55, oM09_55), (56, tM09_56, oM09_56), (57, tM09_57, oM09_57), (58, tM09_58, oM09_58), (59, tM09_59, oM09_59), (60, tM09_60, oM09_60)]
def oM09 (P : Program) : Orac := (oS09 P).withCallF fM09 (memoK P keyC msM09)
theorem msM09_ok : ∀ x ∈ msM09, runX Try.prog (oS09 Try.prog) fM09 x.2.1.args x.2.1.pc x.2.1.hp = some x.2.2 := by
  unfold msM09
  simp only [List.forall_mem_cons, List.not_mem_nil, false_imp_iff, implies_true, and_true]
  exact ⟨mM09_0, mM09_1, mM09_2, mM09_3, mM09_4, mM09_5, mM09_6, mM09_7, mM09_8, mM09_9, mM09_10, mM09_11, mM09_12, mM09_13, mM09_14, mM09_15, mM09_16, mM09_17, mM09_18, mM09_19, mM09_20, mM09_21, mM09_22, mM09_23, mM09_24, mM09_25, mM09_26, mM09_27, mM09_28, mM09_29, mM09_30, mM09_31, mM09_32, mM09_33, mM09_34, mM09_35, mM09_36, mM09_37, mM09_38, mM09_39, mM09_40, mM09_41, mM09_42, mM09_43, mM09_44, mM09_45, mM09_46, mM09_47, mM09_48, mM09_49, mM09_50, mM09_51, mM09_52, mM09_53, mM09_54, mM09_55, mM09_56, mM09_57, mM09_58, mM09_59, mM09_60⟩
theorem oM09_ok {G : Type} {I : In G} (oo : OOK Try.prog (oS09 Try.prog) I) : OOK Try.prog (oM09 Try.prog) I := memo_ok pr oo msM09_ok oo
end Go.Proofs.Ytcbgmkngkkajlaa
end
