/- What the executor asks of the program: the order of evaluation is drawn, and no function is named as the runtime's count of goroutines. -/
import Derived.Test.YtjcphbcjnjeccaaSy13
import Derived.KernelRfl
import Derived.Test.YtjcphbcjnjeccaaProg
set_option linter.unusedVariables false
set_option linter.unusedSimpArgs false
namespace Go.Proofs.Ytjcphbcjnjeccaa
open Go Go.Sy

theorem mixed : Try.prog.follows .mixedOrders = true := by kernel_rfl
theorem ng : ∀ (f : Nat) (fn : Func), Try.prog.funcs[f]? = some fn → (fn.name == "runtime.NumGoroutine") = false := by
  have h : Try.prog.funcs.all (fun fn => !(fn.name == "runtime.NumGoroutine")) = true := by kernel_rfl
  intro f fn hf
  have := Array.all_eq_true'.1 h fn (Array.mem_of_getElem? hf)
  simpa using this
theorem pr : PR Try.prog := ⟨mixed, ng⟩

theorem own : ownKnob Try.prog.godebug = none := by kernel_rfl

/-- Numbers, lists; no ghost. -/
def envOf (i : Nat → Int) (b : Nat → Bool) (l : Nat → List Int) (e : Nat → Addr) : Env Unit := ⟨In.none, fun _ => (), i, b, fun _ => .bool false, l, e, fun _ => rfl⟩
def noAddr : Nat → Addr := fun _ => ⟨0, 0, none⟩
end Go.Proofs.Ytjcphbcjnjeccaa
