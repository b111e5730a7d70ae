import Derived.Test.YtjcphbcjnjeccaaSy38
set_option linter.unusedVariables false
set_option linter.unusedSimpArgs false
namespace Go.Sy
open Go Go.RowKit

/-! ### operations known by proof -/
def Orac.withOp (O : Orac) (k : Nat → List SV → PC → Heap → Oper → Option (List (PC × ORes))) : Orac :=
  { O with op := fun nm fr pc hp o => match k nm fr pc hp o with | some r => some r | none => O.op nm fr pc hp o }

section
variable {P : Program} {G : Type} {O : Orac} {I : In G}
theorem withOp_ok (oo : OOK P O I) {k : Nat → List SV → PC → Heap → Oper → Option (List (PC × ORes))}
    (h : ∀ {nm : Nat} {fr : List SV} {pc : PC} {hp : Heap} {o : Oper} {outs : List (PC × ORes)}, k nm fr pc hp o = some outs → ∀ (B : Base) (ν : Env G) (ρ : Nat → Nat) (a : Act) (w : World), ν.I = I → FR ν ρ fr a → pcDen ν pc → HW B ν ρ hp w → OutsOK P B o a w hp nm ν ρ outs) : OOK P (O.withOp k) I where
  call := oo.call
  loop := oo.loop
  op := by
    intro nm fr pc hp o outs ho B ν ρ a w hI hpu hf hpc hw
    unfold Orac.withOp at ho
    simp only at ho
    split at ho
    · rename_i r hr
      cases ho
      exact h hr B ν ρ a w hI hf hpc hw
    · exact oo.op ho B ν ρ a w hI hpu hf hpc hw
end

/-! x[lo:hi] where the bounds are symbolic; elements of one cell -/
def boundX (d : SI) : Option SV → Option SI
  | none => some d
  | some (.int _ e) => some e
  | _ => none
def isLitS : Option SV → Bool
  | none => true
  | some (.int _ (.lit _)) => true
  | _ => false
def sliceS (P : Program) (pc : PC) (t : Nat) (x : SV) (lo hi : Option SV) : Option (List (PC × Option SV)) :=
  match P.underlying t with
  | some (.slice e) => match sizeT P e, x with
    | some 1, .sl b off len cap => match boundX (.lit 0) lo, boundX (SI.mkNat len) hi with
      | some l, some h => some (ways (need pc [SB.mkLe (.lit 0) off, SB.mkLe (.lit 0) l, SB.mkLe l h, SB.mkLe h cap, SB.mkLt l cap]) (.sl b (SI.mkAdd off l) (SI.mkSub h l) (SI.mkSub cap l)))
      | _, _ => none
    | _, _ => none
  | _ => none
def opSlice (P : Program) (_ : Nat) (fr : List SV) (pc : PC) (hp : Heap) (o : Oper) : Option (List (PC × ORes)) :=
  match o.op with
  | .slice t x lo hi none => match evalO fr x, optL fr lo, optL fr hi with
    | some v, some l, some h => (sliceS P pc t v l h).map (outsV hp)
    | _, _, _ => none
  | _ => none

section
variable {P : Program} {G : Type} {ν : Env G} {ρ : Nat → Nat}
theorem boundX_den {d e : SI} {x : Option SV} (h : boundX d x = some e) : (x = none ∧ e = d) ∨ ∃ j, (x.map (·.den ν ρ)) = some (.int j (e.den ν)) := by
  unfold boundX at h
  split at h
  · cases h; exact .inl ⟨rfl, rfl⟩
  · rename_i j n; cases h; exact .inr ⟨j, by simp [SV.den]⟩
  · cases h

theorem sliceS_run {pc : PC} (hd : pcDen ν pc) {t : Nat} {x : SV} {lo hi : Option SV} {l : List (PC × Option SV)} (hl : sliceS P pc t x lo hi = some l) (w : World) :
    ∃ r ∈ l, pcDen ν r.1 ∧ ∀ v, r.2 = some v → (Instr.sliceAt t (x.den ν ρ) (lo.map (·.den ν ρ)) (hi.map (·.den ν ρ)) none).run P w = .ok (v.den ν ρ) w := by
  unfold sliceS at hl
  split at hl
  case h_2 => cases hl
  rename_i e hu
  split at hl
  case h_2 => cases hl
  rename_i b off len cap hn
  split at hl
  case h_2 => cases hl
  rename_i lx hx hlx hhx
  cases hl
  obtain ⟨r, hr, hp, hv⟩ := ways_den (cs := [SB.mkLe (.lit 0) off, SB.mkLe (.lit 0) lx, SB.mkLe lx hx, SB.mkLe hx cap, SB.mkLt lx cap]) (SV.sl b (SI.mkAdd off lx) (SI.mkSub hx lx) (SI.mkSub cap lx)) hd
  refine ⟨r, hr, hp, fun v hv' => ?_⟩
  obtain ⟨rfl, hc⟩ := hv v hv'
  simp only [List.mem_cons, List.not_mem_nil, or_false, forall_eq_or_imp, forall_eq, SB.mkLe_den, SB.mkLt_den, decide_eq_true_eq] at hc
  simp only [SI.den] at hc
  obtain ⟨c0, c1, c2, c3, c4⟩ := hc
  have g1 := boundX_den (ν := ν) (ρ := ρ) hlx
  have g2 := boundX_den (ν := ν) (ρ := ρ) hhx
  have key : (Instr.sliceBounds true (len.den ν).toNat (cap.den ν).toNat (lo.map (·.den ν ρ)) (hi.map (·.den ν ρ)) none).run P w = .ok ((lx.den ν).toNat, (hx.den ν).toNat, (cap.den ν).toNat) w := by
    refine run_bounds (P := P) _ _ (cap.den ν).toNat (hx.den ν).toNat (lx.den ν).toNat _ _ _ (.inl ⟨rfl, rfl⟩) ?_ ?_ (Nat.le_refl _) (by omega) (by omega) w
    · rcases g2 with ⟨h1, h2⟩ | ⟨j, h⟩
      · refine .inl ⟨by simp [h1], rfl, ?_⟩
        rw [h2, SI.mkNat_den]; omega
      · exact .inr ⟨j, by rw [h, Int.toNat_of_nonneg (by omega)]⟩
    · rcases g1 with ⟨h1, h2⟩ | ⟨j, h⟩
      · exact .inl ⟨by simp [h1], by rw [h2]; rfl⟩
      · exact .inr ⟨j, by rw [h, Int.toNat_of_nonneg (by omega)]⟩
  have hml : ¬ (cap.den ν).toNat = (lx.den ν).toNat := by omega
  have e1 : (off.den ν + lx.den ν).toNat = (off.den ν).toNat + (lx.den ν).toNat := by omega
  have e2 : (hx.den ν - lx.den ν).toNat = (hx.den ν).toNat - (lx.den ν).toNat := by omega
  have e3 : (cap.den ν - lx.den ν).toNat = (cap.den ν).toNat - (lx.den ν).toNat := by omega
  simp only [Instr.sliceAt, Instr.slice, SV.den, Sem.run_bind, run_underlying hu, Result.andThen_ok, key, sizeT_run hn, Sem.run_pure, SI.mkAdd_den, SI.mkSub_den, e1, e2, e3]
  simp [hml, add_none]

theorem opSlice_ok {O : Orac} {I : In G} (oo : OOK P O I) : OOK P (O.withOp (opSlice P)) I := by
  refine withOp_ok oo ?_
  intro nm fr pc hp o outs hk B ν ρ a w hI hf hpc hw
  unfold opSlice at hk
  split at hk
  case h_2 => cases hk
  rename_i t x lo hi hop
  split at hk
  case h_2 => cases hk
  rename_i v l h hv hl hh
  simp only [Option.map_eq_some_iff] at hk
  obtain ⟨ls, hls, rfl⟩ := hk
  obtain ⟨r, hr, hp', hrun⟩ := sliceS_run (ν := ν) (ρ := ρ) hpc hls w
  refine out_V hw hr hp' fun u hu => ?_
  have := hrun u hu
  simp only [execOp, hop, hf.eval hv, optL_den hf hl, optL_den hf hh, Option.map_none]
  simp [this]
end
end Go.Sy
