/- An argument of type api.Access is four integers. -/
import Derived.Test.YtoogepoalbhlhaaLwSign
import Derived.Test.YtoogepoalbhlhaaSy16
set_option linter.unusedVariables false
set_option linter.unusedSimpArgs false
namespace Go.Proofs.Ytoogepoalbhlhaa
open Go Go.Sy Go.ChangeShapes Go.WideShapes Go.ChangeAt

theorem cellsAcc : Try.prog.cellsOf 55 = 4 := by kernel_rfl
theorem cellsU64 : Try.prog.cellsOf 51 = 1 := by kernel_rfl

set_option maxRecDepth 100000 in
theorem arg_access {H : Type} {enc : TypeId × Value → H} {W : World} {base : Nat} {spare : Nat → Bool} {held : Bool} {r : Reach} {b0 : Nat} {v : Value} {d : DataW H} {ps : List MemPlace} (hok : Value.okWide Try.prog W r b0 55 v)
    (h : DataW.Trod enc Try.prog W base spare held 55 v d ps) :
    ∃ (k c a b : Int), v = .agg #[.int .i64 k, .int .i64 c, .int .u64 a, .int .u64 b] ∧ (Lit.int .i64 k).wf = true ∧ (Lit.int .i64 c).wf = true ∧ (Lit.int .u64 a).wf = true ∧ (Lit.int .u64 b).wf = true := by
  obtain ⟨v0, v1, v2, v3, y0, y1, y2, y3, n, rfl, _, _, h0, h1, h2, h3⟩ := Go.Joins.open_agg4 Try.underlying55 (by kernel_rfl) cellsAcc hok h
  obtain ⟨k, e0, _, w0⟩ := DataW.trod_int Try.underlying3 h0
  obtain ⟨c, e1, _, w1⟩ := DataW.trod_int Try.underlying3 h1
  obtain ⟨a, e2, _, w2⟩ := DataW.trod_int Try.underlying51 h2
  obtain ⟨b, e3, _, w3⟩ := DataW.trod_int Try.underlying51 h3
  simp only [List.cons.injEq, and_true] at e0 e1 e2 e3
  subst e0 e1 e2 e3
  exact ⟨k, c, a, b, rfl, w0, w1, w2, w3⟩
end Go.Proofs.Ytoogepoalbhlhaa
