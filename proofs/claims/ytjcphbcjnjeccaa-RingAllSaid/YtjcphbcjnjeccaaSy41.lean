/- x[lo:hi] of a row that is its own: it has room for all that is in it. -/
import Derived.Test.YtjcphbcjnjeccaaSy40
set_option linter.unusedVariables false
set_option linter.unusedSimpArgs false
namespace Go.Sy
open Go Go.RowKit

/-- at least so many -/
def lenLow : SL → Nat
  | .cons _ l => lenLow l + 1
  | .app a b => lenLow a + lenLow b
  | _ => 0
def hiOK (l : SL) : SI → Bool
  | .lit n => decide (n ≤ lenLow l)
  | .len m => m.beq l
  | _ => false
/-- what is known of a row's room, where it is cut -/
def roomF (hp : Heap) (v : SV) (lo hi : Option SV) : PC := match v with
  | .sl b _ len cap => match hget b hp, boundX (.lit 0) lo, boundX (SI.mkNat len) hi with
    | some (.row _ l c _), some x, some y => if c.beq cap then
        (if hiOK l y then [asm (SB.mkLe y cap) true] else []) ++ (match x with | .lit n => if decide (n < lenLow l) then [asm (SB.mkLt x cap) true] else [] | _ => [])
      else []
    | _, _, _ => []
  | _ => []
def opSliceR (P : Program) (_ : Nat) (fr : List SV) (pc : PC) (hp : Heap) (o : Oper) : Option (List (PC × ORes)) :=
  match o.op with
  | .slice t x lo hi none => match evalO fr x, optL fr lo, optL fr hi with
    | some v, some l, some h => (sliceS P (roomF hp v l h ++ pc) t v l h).map (outsV hp)
    | _, _, _ => none
  | _ => none

section
variable {P : Program} {G : Type} {ν : Env G} {ρ : Nat → Nat}
theorem lenLow_le : ∀ l : SL, lenLow l ≤ (l.den ν).length
  | .nil => by simp [lenLow]
  | .cons x l => by have := lenLow_le l; simp only [lenLow, SL.den, List.length_cons]; omega
  | .app a b => by have := lenLow_le a; have := lenLow_le b; simp only [lenLow, SL.den, List.length_append]; omega
  | .var _ => by simp [lenLow]
  | .set _ _ _ => by simp [lenLow]
  | .take _ _ => by simp [lenLow]
  | .drop _ _ => by simp [lenLow]
  | .rep _ _ => by simp [lenLow]
  | .gl _ _ _ _ => by simp [lenLow]
theorem hiOK_le {l : SL} {y : SI} (h : hiOK l y = true) : y.den ν ≤ ((l.den ν).length : Int) := by
  unfold hiOK at h
  split at h
  · have := lenLow_le (ν := ν) l
    simp only [decide_eq_true_eq] at h
    simp only [SI.den]; omega
  · rename_i m
    rw [SL.beq_eq h]; simp [SI.den]
  · cases h
theorem roomF_den {B : Base} {hp : Heap} {w : World} (hw : HW B ν ρ hp w) (v : SV) (lo hi : Option SV) : pcDen ν (roomF hp v lo hi) := by
  unfold roomF
  split
  case h_2 => exact pcDen_nil ν
  rename_i b off len cap
  split
  case h_2 => exact pcDen_nil ν
  rename_i k l c ty x y hg hx hy
  split
  case isFalse => exact pcDen_nil ν
  rename_i hc
  have hc := SI.beq_eq hc
  subst hc
  obtain ⟨F, h1, _, _⟩ := hw.foot
  have hb := h1 b _ (hget_mem hg)
  simp only [BlkDen] at hb
  obtain ⟨⟨rest, _, hcap, _⟩, _⟩ := hb
  have hl := lenLow_le (ν := ν) l
  refine pcDen_append ?_ ?_
  · split
    · rename_i ho
      have := hiOK_le (ν := ν) ho
      exact pcDen_asm1 (by rw [SB.mkLe_den]; exact decide_eq_true (by omega))
    · exact pcDen_nil ν
  · split
    · split
      · rename_i hn
        simp only [decide_eq_true_eq] at hn
        exact pcDen_asm1 (by rw [SB.mkLt_den]; exact decide_eq_true (by simp only [SI.den]; omega))
      · exact pcDen_nil ν
    · exact pcDen_nil ν
theorem opSliceR_ok {O : Orac} {I : In G} (oo : OOK P O I) : OOK P (O.withOp (opSliceR P)) I := by
  refine withOp_ok oo ?_
  intro nm fr pc hp o outs hk B ν ρ a w hI hf hpc hw
  unfold opSliceR at hk
  split at hk
  case h_2 => cases hk
  rename_i t x lo hi hop
  split at hk
  case h_2 => cases hk
  rename_i v l h hv hl hh
  simp only [Option.map_eq_some_iff] at hk
  obtain ⟨ls, hls, rfl⟩ := hk
  obtain ⟨r, hr, hp', hrun⟩ := sliceS_run (ν := ν) (ρ := ρ) (pcDen_append (roomF_den hw v l h) hpc) hls w
  refine out_V hw hr hp' fun u hu => ?_
  have := hrun u hu
  simp only [execOp, hop, hf.eval hv, optL_den hf hl, optL_den hf hh, Option.map_none]
  simp [this]
end
end Go.Sy
