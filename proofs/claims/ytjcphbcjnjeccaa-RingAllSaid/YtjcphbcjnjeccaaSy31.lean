import Derived.Test.YtjcphbcjnjeccaaSy30
set_option linter.unusedVariables false
set_option linter.unusedSimpArgs false
namespace Go.Sy
open Go Go.RowKit

/-! ### two slices of ints -/
/-- A slice of words that can be read. -/
def IntsI (w : World) (v : Value) (xs : List Int) : Prop := ∃ g o c : Nat, v = .slice (some ⟨g, o, none⟩) xs.length c ∧ g < w.heap.size ∧ xs.length ≤ 9223372036854775807 ∧ ∀ (j : Nat) (x : Int), xs[j]? = some x → w.cell? ⟨g, o + j, none⟩ = some (.int .i64 x)

/-- What a slice holds, and what is still owed (its length). -/
def intsXI (hp : Heap) : SV → Option (SL × PC)
  | .sl q o n _ => match hget q hp with
    | some (.row k l _ _) => if kBeq k .i64 && o.beq (.lit 0) then some (l, if lenIs n l then [] else [(.eq (.nat n) (.len l), false)]) else none
    | _ => none
  | _ => none

theorem intsX_denI {B : Base} {ν : Env Gh} {ρ : Nat → Nat} {hp : Heap} {w : World} (hI : ν.I = inM) (hw : HW B ν ρ hp w) {v : SV} {l : SL} {bs : PC} (h : intsXI hp v = some (l, bs)) (hb : ∀ x ∈ bs, x.1.den ν ≠ x.2) : IntsI w (v.den ν ρ) (l.den ν) := by
  unfold intsXI at h
  split at h
  · rename_i q o n c
    split at h
    · rename_i k l' cp ty hg
      split at h
      · rename_i hk
        simp only [Bool.and_eq_true] at hk
        simp only [Option.some.injEq, Prod.mk.injEq] at h
        obtain ⟨rfl, rfl⟩ := h
        have e1 := kBeq_eq hk.1
        have e2 := SI.beq_eq hk.2
        subst e1 e2
        obtain ⟨rest, h1, h2, h3⟩ := hw.ints (hget_mem hg)
        have hlen : (n.den ν).toNat = (l'.den ν).length := by
          cases hl : lenIs n l' with
          | true => exact lenIs_den hI hl
          | false =>
            rw [hl] at hb
            simp only [Bool.false_eq_true, if_false, List.mem_singleton, forall_eq] at hb
            have := hb
            simp only [SB.den, SI.den, ne_eq, beq_eq_false_iff_ne, Decidable.not_not] at this
            omega
        refine ⟨ρ q, 0, (c.den ν).toNat, by simp [SV.den, SI.den, hlen], Array.getElem?_eq_some_iff.1 h1 |>.1, by omega, fun j x hx => ?_⟩
        rw [cell_at h1]
        have hj : j < (l'.den ν).length := (List.getElem?_eq_some_iff.1 hx).1
        rw [List.getElem?_append_left (by simpa using hj), List.getElem?_map, Nat.zero_add, hx]
        rfl
      · cases h
    · cases h
  · cases h

/-- Are two slices' words the same? -/
def eqKI (_ : Nat) (args : List SV) (pc : PC) (hp : Heap) : Option (List CLeaf) := match args with
  | [a, b] => match intsXI hp a, intsXI hp b with
    | some (l, bs), some (m, cs) => some (⟨false, .bool (eqX l m), pc, hp⟩ :: (bs ++ cs).map (bad1 pc))
    | _, _ => none
  | _ => none

def EqCI (P : Program) (g : Nat) : Prop := ∀ (w : World) (a b : Value) (xs ys : List Int), IntsI w a xs → IntsI w b ys → Calls P g #[a, b] w fun e w' => e = .returned (.bool (xs == ys)) ∧ Below w.heap.size w w'

section
variable {P : Program} {O : Orac}
theorem eqK_okI (oo : OOK P O inM) {g : Nat} (hc : EqCI P g) : OOK P (O.withCall g eqKI) inM := by
  refine withCall_ok oo ?_
  intro lo args pc hp cs h sz hsz B ν ρ w R hI hpc hw hl
  unfold eqKI at h
  split at h
  · rename_i a b
    split at h
    · rename_i l bs m bs' h1 h2
      cases h
      have hb := bads_ok (bs := bs ++ bs') hpc hl (fun x hx => by simp only [List.mem_cons, List.mem_map]; exact .inr ⟨x, hx, rfl⟩)
      have i1 := intsX_denI hI hw h1 (fun x hx => hb x (by simp [hx]))
      have i2 := intsX_denI hI hw h2 (fun x hx => hb x (by simp [hx]))
      refine pure_call' (v := .bool (eqX l m)) hpc hw hl (List.mem_cons_self ..) ?_
      have := hc w _ _ _ _ i1 i2
      simp only [SV.den, eqX_den hI]
      exact this
    · cases h
  · cases h

end
end Go.Sy
