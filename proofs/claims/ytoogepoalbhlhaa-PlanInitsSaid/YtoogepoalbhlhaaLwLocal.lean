/- The call coachyardref12.Local: where a worker's row begins, as a number. -/
import Derived.Test.YtoogepoalbhlhaaLwBase
import Derived.Test.YtoogepoalbhlhaaSy21
set_option linter.unusedVariables false
set_option linter.unusedSimpArgs false
namespace Go.Proofs.Ytoogepoalbhlhaa
open Go Go.Sy Go.RowKit
def cfgX : SV := .agg [.int .i64 (.var 0), .int .i64 (.var 1), .int .i64 (.var 2), .int .i64 (.var 3)]
def args40 : List SV := [cfgX, .int .i64 (.var 4)]
def fr40 (P : Program) : List SV := (capL P noOrac 24 3 args40 [] []).fr
def frI40 (P : Program) : List SV := deadFrom 14 (((fr40 P).set 5 (.int .i64 (.var (nmAt 3 + 1)))).set 6 (.int .i64 (.var (nmAt 3))))
def hp40 (P : Program) : Heap := (capL P noOrac 24 3 args40 [] []).hp
def at40 : SI := .wrap .i64 (.add (.wrap .i64 (.add (.wrap .i64 (.add (.lit 1) (.var 0))) (.wrap .i64 (.mul (.lit 3) (.var 3))))) (.lit 3))
def end40 : SB := .eq (.var (nmAt 3 + 1)) (.wrap .i64 (.add at40 (.mul (.var 4) (.add (.var 2) (.lit 2)))))
def mk40 (P : Program) (pc : PC) : List Leaf := if pav (nmAt 3) (nmAt 3 + 64) pc then [⟨.exit 0, frI40 P, (end40, true) :: pc, hp40 P⟩, ⟨.bad, [], (.lt (.var 4) (.lit 0), true) :: pc, []⟩, ⟨.bad, [], (.lt (.lit 9223372036854775807) (.var 4), true) :: pc, []⟩] else [⟨.bad, [], [], []⟩]
def or40 (P : Program) : Orac := noOrac.withLoop 24 3 (nmAt 3) (fr40 P) (hp40 P) (mk40 P)

def kN : Nat := nmAt 3
theorem body40 : (codeX Try.prog noOrac (2^700) (2^650) 24 6000 0 (loopAt Try.prog 24 3) (frI40 Try.prog) [] (hp40 Try.prog)).bind (sumsOf (okNames (nmAt 3) 64 (2^700) (2^650)) (frI40 Try.prog) (frI40 Try.prog) (hp40 Try.prog)) = some
  [(.normal, [(.int .i64 (.wrap .i64 (.add (.wrap .i64 (.add (.var (nmAt 3 + 1)) (.var 2))) (.lit 2))), .int .i64 (.var (nmAt 3 + 1))), (.int .i64 (.wrap .i64 (.add (.var (nmAt 3)) (.lit 1))), .int .i64 (.var (nmAt 3)))], [(.lt (.var (nmAt 3)) (.var 4), true)]),
   (.exit 0, [(.int .i64 (.var (nmAt 3 + 1)), .int .i64 (.var (nmAt 3 + 1))), (.int .i64 (.var (nmAt 3)), .int .i64 (.var (nmAt 3)))], [(.lt (.var (nmAt 3)) (.var 4), false)])] := by kernel_rfl
theorem start40 : diffX (fun v => v.av (nmAt 3) (nmAt 3 + 64)) (fr40 Try.prog) (frI40 Try.prog) = some [(.int .i64 at40, .int .i64 (.var (nmAt 3 + 1))), (.int .i64 (.lit 0), .int .i64 (.var (nmAt 3)))] := by kernel_rfl
theorem run40 : runX Try.prog (or40 Try.prog) 24 args40 [] [] = some [⟨false, .int .i64 (.var (nmAt 3 + 1)), [(end40, true)], []⟩, ⟨true, .tup [], [(.lt (.var 4) (.lit 0), true)], []⟩, ⟨true, .tup [], [(.lt (.lit 9223372036854775807) (.var 4), true)], []⟩] := by kernel_rfl
theorem one40 : (loopsAt Try.prog 24 3).length = 1 := by kernel_rfl
theorem hav1 : hav (nmAt 3) (nmAt 3 + 64) (hp40 Try.prog) = true := by kernel_rfl
theorem hav2 : hav (2^700) (2^700 + 2^650) (hp40 Try.prog) = true := by kernel_rfl


/-- Two numbers turned. -/
def set2 {G : Type} (ν : Env G) (n : Nat) (x y : Int) : Env G := { ν with i := fun m => if m = n then x else if m = n + 1 then y else ν.i m }
theorem set2_agree {G : Type} (ν : Env G) (ρ : Nat → Nat) (n : Nat) (x y : Int) : Agree n (n + 64) ν (set2 ν n x y) ρ ρ :=
  ⟨rfl, fun _ _ => rfl, fun m hm => by
    unfold out at hm
    simp only [Bool.or_eq_true, Nat.ble_eq] at hm
    have h1 : m ≠ n := by omega
    have h2 : m ≠ n + 1 := by omega
    simp [set2, h1, h2], fun _ _ => rfl, fun _ _ => rfl, fun _ _ => rfl, fun _ _ => rfl, fun _ _ => rfl⟩
attribute [local irreducible] nmAt
theorem or40_ok (I : In Unit) : OOK Try.prog (or40 Try.prog) I := by
  refine withLoop_ok noOrac_ok one40 ?_
  intro pc sub hsub hpart B ν ρ Q hQ hI hl act w hpc hf hw
  unfold mk40 at hl
  cases hp : pav (nmAt 3) (nmAt 3 + 64) pc with
  | false => rw [hp] at hl; exact (hl ⟨.bad, [], [], []⟩ (by simp) act w ⟨ν, ρ, Agree.refl _ _ _ _, pcDen_nil _, fun h => h.elim⟩).elim
  | true =>
    rw [hp] at hl
    simp only [if_true] at hl
    by_cases hneg : ν.i 4 < 0
    · exact (hl ⟨.bad, [], (.lt (.var 4) (.lit 0), true) :: pc, []⟩ (by simp) act w ⟨ν, ρ, Agree.refl _ _ _ _, pcDen_cons (by simp [SB.den, SI.den, hneg]) hpc, fun h => h.elim⟩).elim
    by_cases hbig : 9223372036854775807 < ν.i 4
    · exact (hl ⟨.bad, [], (.lt (.lit 9223372036854775807) (.var 4), true) :: pc, []⟩ (by simp) act w ⟨ν, ρ, Agree.refl _ _ _ _, pcDen_cons (by simp [SB.den, SI.den, hbig]) hpc, fun h => h.elim⟩).elim
    refine loop_pure (sub0 := 64) (x := 0) pr noOrac_ok hpart body40 start40 hav1 hav2 (fun ν1 => 0 ≤ ν1.i (nmAt 3) ∧ ν1.i (nmAt 3) ≤ ν.i 4 ∧ ν1.i (nmAt 3 + 1) = IntKind.i64.wrap (at40.den ν + ν1.i (nmAt 3) * (ν.i 2 + 2))) (fun ν1 => (ν.i 4 - ν1.i (nmAt 3)).toNat) (fun pc => (end40, true) :: pc) hQ hI ?_ ?_ ?_ hp ?_ act w hpc hf hw
    · refine ⟨set2 ν (nmAt 3) 0 (at40.den ν), set2_agree _ _ _ _ _, ⟨by simp [set2], by simp [set2]; omega, ?_⟩, pcDen_nil _, fun y hy => ?_⟩
      · simp only [set2, if_true]
        simp only [at40, SI.den, IntKind.wrap_i64]
        simp
      · simp only [List.mem_cons, List.not_mem_nil, or_false] at hy
        rcases hy with rfl | rfl <;> simp [SV.den, SI.den, set2]
    · intro s hs ν1 ν2 ρ2 a1 hJ _ a2 hp2
      obtain ⟨j1, j2, j3⟩ := hJ
      have e4 : ν2.i 4 = ν.i 4 := (a2.i 4 (out_big (by omega))).trans (a1.i 4 (out_small (by omega)))
      have e2 : ν2.i 2 = ν.i 2 := (a2.i 2 (out_big (by omega))).trans (a1.i 2 (out_small (by omega)))
      have ek : ν2.i (nmAt 3) = ν1.i (nmAt 3) := a2.i (nmAt 3) (out_nm (j := 0) (by decide +kernel) (by omega))
      have ea : ν2.i (nmAt 3 + 1) = ν1.i (nmAt 3 + 1) := a2.i (nmAt 3 + 1) (out_nm (j := 1) (by decide +kernel) (by omega))
      simp only [List.mem_cons, List.not_mem_nil, or_false] at hs
      rcases hs with rfl | rfl
      · have hlt := hp2 (.lt (.var (nmAt 3)) (.var 4)) true (by simp)
        simp only [SB.den, SI.den, decide_eq_true_eq, ek, e4] at hlt
        refine ⟨set2 ν (nmAt 3) (ν1.i (nmAt 3) + 1) (IntKind.i64.wrap (at40.den ν + (ν1.i (nmAt 3) + 1) * (ν.i 2 + 2))), set2_agree _ _ _ _ _, ⟨by simp [set2]; omega, by simp [set2]; omega, by simp [set2]⟩, pcDen_nil _, by simp [set2]; omega, fun y hy => ?_⟩
        simp only [List.mem_cons, List.not_mem_nil, or_false] at hy
        rcases hy with rfl | rfl
        · simp only [SV.den, SI.den, e2, ea, j3, set2]
          simp only [IntKind.wrap_i64, Int.add_mul]
          simp
          generalize ν1.i (nmAt 3) * (ν.i 2 + 2) = q
          omega
        · simp only [SV.den, SI.den, ek, set2]
          simp only [IntKind.wrap_i64]
          simp
          omega
      · have hlt := hp2 (.lt (.var (nmAt 3)) (.var 4)) false (by simp)
        simp only [SB.den, SI.den, decide_eq_false_iff_not, ek, e4] at hlt
        have hk : ν1.i (nmAt 3) = ν.i 4 := by omega
        refine ⟨rfl, set2 ν (nmAt 3) (ν1.i (nmAt 3)) (ν1.i (nmAt 3 + 1)), set2_agree _ _ _ _ _, pcDen_one ?_, fun y hy => ?_⟩
        · have hs := set2_agree ν ρ (nmAt 3) (ν1.i (nmAt 3)) (ν1.i (nmAt 3 + 1))
          have h4 : (set2 ν (nmAt 3) (ν1.i (nmAt 3)) (ν1.i (nmAt 3 + 1))).i 4 = ν.i 4 := hs.i 4 (out_small (by omega))
          have h2 : (set2 ν (nmAt 3) (ν1.i (nmAt 3)) (ν1.i (nmAt 3 + 1))).i 2 = ν.i 2 := hs.i 2 (out_small (by omega))
          have hat := SI.den_agree hs at40 (by decide +kernel)
          have hk1 : (set2 ν (nmAt 3) (ν1.i (nmAt 3)) (ν1.i (nmAt 3 + 1))).i (nmAt 3 + 1) = ν1.i (nmAt 3 + 1) := by simp [set2]
          simp only [end40, SB.den, SI.den, h4, h2, hat, hk1]
          rw [j3, hk]
          simp
        · simp only [List.mem_cons, List.not_mem_nil, or_false] at hy
          rcases hy with rfl | rfl <;> simp [SV.den, SI.den, set2, ek, ea]
    · intro ν3 h1 h2
      exact pcDen_cons (h1 end40 true (by simp)) h2
    · intro a w hs
      obtain ⟨ν', ρ', a1, p1, q1⟩ := hs
      exact hl ⟨.exit 0, frI40 Try.prog, (end40, true) :: pc, hp40 Try.prog⟩ (by simp) a w ⟨ν', ρ', a1.mono (Nat.ble_eq_true_of_le (Nat.le_refl _)) (Nat.ble_eq_true_of_le (by omega)), p1, q1⟩

def env5 (a b c d i : Int) : Env Unit := ⟨In.none, fun _ => (), fun | 0 => a | 1 => b | 2 => c | 3 => d | _ => i, fun _ => false, fun _ => .bool false, fun _ => [], fun _ => ⟨0, 0, none⟩, fun _ => rfl⟩
def localZ (a c d i : Int) : Int := IntKind.i64.wrap (IntKind.i64.wrap (IntKind.i64.wrap (IntKind.i64.wrap (1 + a) + IntKind.i64.wrap (3 * d)) + 3) + i * (c + 2))
/-- coachyardref12.Local: where a worker's row begins. -/
theorem local_calls (a b c d i : Int) (h0 : 0 ≤ i) (h1 : i ≤ 9223372036854775807) (w : World) :
    Calls Try.prog 24 #[.agg #[.int .i64 a, .int .i64 b, .int .i64 c, .int .i64 d], .int .i64 i] w fun e w' => e = .returned (.int .i64 (localZ a c d i)) ∧ Below w.heap.size w w' := by
  refine runX_calls pr (or40_ok In.none) run40 (baseOf w) (env5 a b c d i) (fun _ => 0) w _ rfl (pcDen_nil _) (HW.empty _ _ _) ?_
  intro x hx ν' ρ' w' hag hp
  have e0 : ν'.i 0 = a := hag.i 0 (out_LO (by omega))
  have e2 : ν'.i 2 = c := hag.i 2 (out_LO (by omega))
  have e3 : ν'.i 3 = d := hag.i 3 (out_LO (by omega))
  have e4 : ν'.i 4 = i := hag.i 4 (out_LO (by omega))
  simp only [List.mem_cons, List.not_mem_nil, or_false] at hx
  rcases hx with rfl | rfl | rfl
  · have hv := hp end40 true (by simp)
    simp only [end40, at40, SB.den, SI.den, e0, e2, e3, e4, beq_iff_eq] at hv
    exact ⟨rfl, fun hw => ⟨by simp only [SV.den, SI.den, hv]; rfl, hw.below⟩⟩
  · have hv := hp (.lt (.var 4) (.lit 0)) true (by simp)
    simp only [SB.den, SI.den, e4, decide_eq_true_eq] at hv
    omega
  · have hv := hp (.lt (.lit 9223372036854775807) (.var 4)) true (by simp)
    simp only [SB.den, SI.den, e4, decide_eq_true_eq] at hv
    omega
end Go.Proofs.Ytoogepoalbhlhaa
