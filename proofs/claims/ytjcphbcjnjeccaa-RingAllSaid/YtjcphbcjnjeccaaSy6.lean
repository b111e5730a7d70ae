import Derived.Test.YtjcphbcjnjeccaaSy5
import Derived.Laws.StructEq
set_option linter.unusedVariables false
set_option linter.unusedSimpArgs false
namespace Go.Sy
open Go

section
variable {P : Program} {G : Type} {ν : Env G} {ρ : Nat → Nat}

def binRun (P : Program) (op : BinOp) (t : TypeId) (xo yo : Operand) (x y : Value) (w : World) : Result Value :=
  (do eqGuard op t xo yo x y; binOp op t x y : Sem Value).run P w

theorem eqGuard_int (op : BinOp) (t : TypeId) (xo yo : Operand) (k : IntKind) (a : Int) (y : Value) (w : World) : (eqGuard op t xo yo (.int k a) y).run P w = .ok () w := by
  unfold eqGuard
  cases op <;> simp
theorem eqGuard_bool (op : BinOp) (t : TypeId) (xo yo : Operand) (a : Bool) (y : Value) (w : World) : (eqGuard op t xo yo (.bool a) y).run P w = .ok () w := by
  unfold eqGuard
  cases op <;> simp
theorem eqGuard_ptr (op : BinOp) (t : TypeId) (xo yo : Operand) (a : Option Addr) (y : Value) (w : World) : (eqGuard op t xo yo (.pointer a) y).run P w = .ok () w := by
  unfold eqGuard
  cases op <;> simp
theorem eqGuard_func (op : BinOp) (t : TypeId) (xo yo : Operand) (f : Fn) (a b : Array Value) (y : Value) (w : World) : (eqGuard op t xo yo (.func f a b) y).run P w = .ok () w := by
  unfold eqGuard
  cases op <;> simp
theorem eqGuard_nilFunc (op : BinOp) (t : TypeId) (xo yo : Operand) (y : Value) (w : World) : (eqGuard op t xo yo .nilFunc y).run P w = .ok () w := by
  unfold eqGuard
  cases op <;> simp
theorem eqGuard_slice (op : BinOp) (t : TypeId) (xo yo : Operand) (a : Option Addr) (n c : Nat) (y : Value) (w : World) : (eqGuard op t xo yo (.slice a n c) y).run P w = .ok () w := by
  unfold eqGuard
  cases op <;> simp

theorem equal_bool {t : TypeId} (hu : P.underlying t = some .bool) (a b : Bool) (w : World) : (Op.equal t (.bool a) (.bool b)).run P w = .ok (a == b) w := by
  show (Op.equalIn (9999 + 1) t (.bool a) (.bool b)).run P w = _
  rw [Op.equalIn]; simp [run_underlying hu]
theorem equal_ptr_nil {t e : TypeId} (hu : P.underlying t = some (.pointer e)) (a : Option Addr) (w : World) : (Op.equal t (.pointer a) (.pointer none)).run P w = .ok a.isNone w := by
  show (Op.equalIn (9999 + 1) t (.pointer a) (.pointer none)).run P w = _
  rw [Op.equalIn]; cases a <;> simp [run_underlying hu]
theorem equal_nil_ptr {t e : TypeId} (hu : P.underlying t = some (.pointer e)) (a : Option Addr) (w : World) : (Op.equal t (.pointer none) (.pointer a)).run P w = .ok a.isNone w := by
  show (Op.equalIn (9999 + 1) t (.pointer none) (.pointer a)).run P w = _
  rw [Op.equalIn]; cases a <;> simp [run_underlying hu]
theorem equal_fn_nil {t : TypeId} {p r : Array TypeId} {v : Bool} (hu : P.underlying t = some (.func p r v)) (f : Fn) (a b : Array Value) (w : World) : (Op.equal t (.func f a b) .nilFunc).run P w = .ok false w := by
  show (Op.equalIn (9999 + 1) t (.func f a b) .nilFunc).run P w = _
  rw [Op.equalIn]; simp [run_underlying hu]
theorem equal_nil_fn {t : TypeId} {p r : Array TypeId} {v : Bool} (hu : P.underlying t = some (.func p r v)) (f : Fn) (a b : Array Value) (w : World) : (Op.equal t .nilFunc (.func f a b)).run P w = .ok false w := by
  show (Op.equalIn (9999 + 1) t .nilFunc (.func f a b)).run P w = _
  rw [Op.equalIn]; simp [run_underlying hu]
theorem equal_nilFn {t : TypeId} {p r : Array TypeId} {v : Bool} (hu : P.underlying t = some (.func p r v)) (w : World) : (Op.equal t .nilFunc .nilFunc).run P w = .ok true w := by
  show (Op.equalIn (9999 + 1) t .nilFunc .nilFunc).run P w = _
  rw [Op.equalIn]; simp [run_underlying hu]
theorem equal_sl_nil {t e : TypeId} (hu : P.underlying t = some (.slice e)) (a : Option Addr) (n c : Nat) (w : World) : (Op.equal t (.slice a n c) (.slice none 0 0)).run P w = .ok a.isNone w := by
  show (Op.equalIn (9999 + 1) t (.slice a n c) (.slice none 0 0)).run P w = _
  rw [Op.equalIn]; cases a <;> simp [run_underlying hu]

theorem eqFields_flat (d : Nat) {X Y : List SV} (w : World) : ∀ (fs : List Field) (n : Nat) (e : SB), flatF P n fs = true → fs.length + n = X.length → fs.length + n = Y.length → eqL (X.drop n) (Y.drop n) = some e →
    (Op.eqFields (d + 1) (denL ν ρ X).toArray (denL ν ρ Y).toArray fs).run P w = .ok (e.den ν) w
  | [], n, e, _, hx, hy, he => by
    simp only [List.length_nil, Nat.zero_add] at hx hy
    rw [List.drop_of_length_le (by omega), List.drop_of_length_le (by omega)] at he
    simp only [eqL, Option.some.injEq] at he
    subst he
    simp [Op.eqFields, SB.den]
  | f :: fs, n, e, hf, hx, hy, he => by
    simp only [flatF, Bool.and_eq_true] at hf
    obtain ⟨⟨⟨h1, h2⟩, h3⟩, h4⟩ := hf
    have h1 := Nat.eq_of_beq_eq_true h1
    simp only [List.length_cons] at hx hy
    have lx : n < X.length := by omega
    have ly : n < Y.length := by omega
    rw [List.drop_eq_getElem_cons lx, List.drop_eq_getElem_cons ly] at he
    cases hu : P.underlying f.type with
    | none => rw [hu] at h2; cases h2
    | some td =>
      rw [hu] at h2
      cases td <;> simp at h2
      rename_i kk
      have hxi : X[n]? = some X[n] := List.getElem?_eq_getElem lx
      have hyi : Y[n]? = some Y[n] := List.getElem?_eq_getElem ly
      unfold eqL at he
      split at he
      · rename_i h _; cases h
      · rename_i k a r j b s hxa hyb
        simp only [List.cons.injEq] at hxa hyb
        obtain ⟨hxa, hr⟩ := hxa
        obtain ⟨hyb, hs⟩ := hyb
        split at he
        · rename_i hk
          have hk := kBeq_eq hk
          subst hk
          simp only [Option.map_eq_some_iff] at he
          obtain ⟨e', he', rfl⟩ := he
          subst hr hs
          have ih := eqFields_flat d w fs (n + 1) e' h4 (by omega) (by omega) he'
          have hagg : (isAgg f.type).run P w = .ok false w := by simp [isAgg, run_underlying hu]
          have p1 : (part f.type (denL ν ρ X).toArray f.offset).run P w = .ok (.int k (a.den ν)) w := by
            simp [part, hagg, h1, denL_get, hxi, hxa, SV.den]
          have p2 : (part f.type (denL ν ρ Y).toArray f.offset).run P w = .ok (.int k (b.den ν)) w := by
            simp [part, hagg, h1, denL_get, hyi, hyb, SV.den]
          have hnm : f.name ≠ "_" := by simpa using h3
          simp only [Op.eqFields, hnm, ne_eq, not_false_eq_true, if_true, Sem.run_bind, p1, p2, Result.andThen_ok, run_equalIn_int w d f.type k kk _ _ hu, Sem.run_ite, ih, Sem.run_pure]
          rw [SB.mkAnd_den, SB.mkEq_den]
          cases hq : (a.den ν == b.den ν) <;> simp
        · cases he
      · cases he

theorem shl_den (k : IntKind) (a : Int) (n : Nat) : k.wrap (a * ((2 ^ Nat.min n k.bits : Nat) : Int)) = k.wrap (a * 2 ^ (min ((n : Int)).toNat k.bits)) := by
  simp [Nat.min_def, Int.natCast_pow]
theorem shr_den (k : IntKind) (a : Int) (n : Nat) : a.fdiv ((2 ^ Nat.min n k.bits : Nat) : Int) = a.fdiv (2 ^ (min ((n : Int)).toNat k.bits)) := by
  simp [Nat.min_def, Int.natCast_pow]

theorem binX_run {pc : PC} {op : BinOp} {t : Nat} {x y : SV} {l : List (PC × Option SV)} (hd : pcDen ν pc) (h : binX P pc op t x y = some l) :
    ∃ r ∈ l, pcDen ν r.1 ∧ ∀ v, r.2 = some v → ∀ xo yo w, binRun P op t xo yo (x.den ν ρ) (y.den ν ρ) w = .ok (v.den ν ρ) w := by
  have one : ∀ (v : SV), l = [([], some v)] → (∀ xo yo w, binRun P op t xo yo (x.den ν ρ) (y.den ν ρ) w = .ok (v.den ν ρ) w) →
      ∃ r ∈ l, pcDen ν r.1 ∧ ∀ v, r.2 = some v → ∀ xo yo w, binRun P op t xo yo (x.den ν ρ) (y.den ν ρ) w = .ok (v.den ν ρ) w := fun v hl hr =>
    ⟨([], some v), by simp [hl], pcDen_nil ν, fun u hu => by cases hu; exact hr⟩
  unfold binX at h
  cases x with
  | int k a =>
    cases y with
    | int j b =>
      simp only at h
      split at h
      · -- shl
        split at h
        · rename_i n
          refine one _ (Option.some.inj h).symm fun xo yo w => ?_
          simp only [binRun, SV.den, Sem.run_bind, eqGuard_int, Result.andThen_ok, binOp, Op.shift, SI.den, SI.mkWrap_den, SI.mkMul_den]
          have hn : ¬ ((Int.ofNat n) < 0) := Int.not_lt.mpr (Int.natCast_nonneg n)
          rw [if_neg hn]
          simp
        · cases h
      · -- shr
        split at h
        · rename_i n
          refine one _ (Option.some.inj h).symm fun xo yo w => ?_
          simp only [binRun, SV.den, Sem.run_bind, eqGuard_int, Result.andThen_ok, binOp, Op.shift, SI.den, SI.mkFdiv_den]
          have hn : ¬ ((Int.ofNat n) < 0) := Int.not_lt.mpr (Int.natCast_nonneg n)
          rw [if_neg hn]
          simp
        · cases h
      · rename_i hsl hsr
        split at h
        · rename_i hk
          have hk := kBeq_eq hk
          subst hk
          have ez : (SB.eq b (.lit 0)).den ν = (b.den ν == 0) := rfl
          split at h
          all_goals try (refine one _ (Option.some.inj h).symm fun xo yo w => ?_; simp [binRun, SV.den, eqGuard_int, binOp, Op.intArith, Op.intBits, Op.intCmp, SI.mkWrap_den, SI.mkAdd_den, SI.mkSub_den, SI.mkMul_den, SI.mkBits_den, SB.mkEq_den, SB.mkNot_den, SB.mkLt_den, SB.mkLe_den, bitsDen]; done)
          all_goals try (refine one _ (Option.some.inj h).symm fun xo yo w => ?_; simp [binRun, SV.den, eqGuard_int, binOp, Op.intArith, Op.intBits, Op.intCmp, SI.mkWrap_den, SI.mkAdd_den, SI.mkSub_den, SI.mkMul_den, SI.mkBits_den, SB.mkEq_den, SB.mkNot_den, SB.mkLt_den, SB.mkLe_den, bitsDen, bne]; done)
          · -- quo
            split at h
            · rename_i hq
              have hb : ¬ (b.den ν = 0) := by
                have := SB.known_den hd hq
                rw [SB.mkEq_den] at this
                simpa [SI.den] using this
              refine one _ (Option.some.inj h).symm fun xo yo w => ?_
              simp [binRun, SV.den, eqGuard_int, binOp, Op.intDiv, hb, SI.mkWrap_den, SI.mkTdiv_den]
            · cases h
              by_cases hb : b.den ν = 0
              · exact ⟨_, by simp; exact .inr rfl, pcDen_one (show (SB.eq b (.lit 0)).den ν = true by rw [ez]; simp [hb]), fun v hv => by cases hv⟩
              · refine ⟨_, by simp; exact .inl rfl, pcDen_one (show (SB.eq b (.lit 0)).den ν = false by rw [ez]; simp [hb]), fun v hv => ?_⟩
                cases hv
                intro xo yo w
                simp [binRun, SV.den, eqGuard_int, binOp, Op.intDiv, hb, SI.mkWrap_den, SI.mkTdiv_den]
          · -- rem
            split at h
            · rename_i hq
              have hb : ¬ (b.den ν = 0) := by
                have := SB.known_den hd hq
                rw [SB.mkEq_den] at this
                simpa [SI.den] using this
              refine one _ (Option.some.inj h).symm fun xo yo w => ?_
              simp [binRun, SV.den, eqGuard_int, binOp, Op.intDiv, hb, SI.mkTmod_den]
            · cases h
              by_cases hb : b.den ν = 0
              · exact ⟨_, by simp; exact .inr rfl, pcDen_one (show (SB.eq b (.lit 0)).den ν = true by rw [ez]; simp [hb]), fun v hv => by cases hv⟩
              · refine ⟨_, by simp; exact .inl rfl, pcDen_one (show (SB.eq b (.lit 0)).den ν = false by rw [ez]; simp [hb]), fun v hv => ?_⟩
                cases hv
                intro xo yo w
                simp [binRun, SV.den, eqGuard_int, binOp, Op.intDiv, hb, SI.mkTmod_den]
          · cases h
        · cases h
    | _ => simp at h
  | bool a =>
    cases y with
    | bool b =>
      simp only at h
      split at h
      · rename_i hu
        refine one _ (Option.some.inj h).symm fun xo yo w => ?_
        simp [SB.mkSame_den, SB.mkNot_den, binRun, SV.den, eqGuard_bool, binOp, equal_bool hu, SB.den]
      · rename_i hu
        refine one _ (Option.some.inj h).symm fun xo yo w => ?_
        simp [SB.mkSame_den, SB.mkNot_den, binRun, SV.den, eqGuard_bool, binOp, equal_bool hu, SB.den]
      · cases h
    | _ => simp at h
  | ptr b off =>
    cases y with
    | nilPtr =>
      simp only at h
      split at h
      · rename_i hu
        refine one _ (Option.some.inj h).symm fun xo yo w => ?_
        first | (simp [binRun, SV.den, eqGuard_ptr, binOp, equal_ptr_nil hu, SB.den]; done) | (simp [binRun, SV.den, eqGuard_ptr, binOp, equal_nil_ptr hu, SB.den]; done)
      · rename_i hu
        refine one _ (Option.some.inj h).symm fun xo yo w => ?_
        first | (simp [binRun, SV.den, eqGuard_ptr, binOp, equal_ptr_nil hu, SB.den]; done) | (simp [binRun, SV.den, eqGuard_ptr, binOp, equal_nil_ptr hu, SB.den]; done)
      · cases h
    | _ => simp at h
  | nilPtr =>
    cases y with
    | nilPtr =>
      simp only at h
      split at h
      · rename_i hu
        refine one _ (Option.some.inj h).symm fun xo yo w => ?_
        first | (simp [binRun, SV.den, eqGuard_ptr, binOp, equal_ptr_nil hu, SB.den]; done) | (simp [binRun, SV.den, eqGuard_ptr, binOp, equal_nil_ptr hu, SB.den]; done)
      · rename_i hu
        refine one _ (Option.some.inj h).symm fun xo yo w => ?_
        first | (simp [binRun, SV.den, eqGuard_ptr, binOp, equal_ptr_nil hu, SB.den]; done) | (simp [binRun, SV.den, eqGuard_ptr, binOp, equal_nil_ptr hu, SB.den]; done)
      · cases h
    | ptr b off =>
      simp only at h
      split at h
      · rename_i hu
        refine one _ (Option.some.inj h).symm fun xo yo w => ?_
        first | (simp [binRun, SV.den, eqGuard_ptr, binOp, equal_ptr_nil hu, SB.den]; done) | (simp [binRun, SV.den, eqGuard_ptr, binOp, equal_nil_ptr hu, SB.den]; done)
      · rename_i hu
        refine one _ (Option.some.inj h).symm fun xo yo w => ?_
        first | (simp [binRun, SV.den, eqGuard_ptr, binOp, equal_ptr_nil hu, SB.den]; done) | (simp [binRun, SV.den, eqGuard_ptr, binOp, equal_nil_ptr hu, SB.den]; done)
      · cases h
    | _ => simp at h
  | fn f a b =>
    cases y with
    | nilFunc =>
      simp only at h
      split at h
      · rename_i hu
        refine one _ (Option.some.inj h).symm fun xo yo w => ?_
        simp [binRun, SV.den, eqGuard_func, binOp, equal_fn_nil hu, SB.den]
      · rename_i hu
        refine one _ (Option.some.inj h).symm fun xo yo w => ?_
        simp [binRun, SV.den, eqGuard_func, binOp, equal_fn_nil hu, SB.den]
      · cases h
    | _ => simp at h
  | nilFunc =>
    cases y with
    | nilFunc =>
      simp only at h
      split at h
      · rename_i hu
        refine one _ (Option.some.inj h).symm fun xo yo w => ?_
        first | (simp [binRun, SV.den, eqGuard_nilFunc, binOp, equal_nil_fn hu, SB.den]; done) | (simp [binRun, SV.den, eqGuard_nilFunc, binOp, equal_nilFn hu, SB.den]; done)
      · rename_i hu
        refine one _ (Option.some.inj h).symm fun xo yo w => ?_
        first | (simp [binRun, SV.den, eqGuard_nilFunc, binOp, equal_nil_fn hu, SB.den]; done) | (simp [binRun, SV.den, eqGuard_nilFunc, binOp, equal_nilFn hu, SB.den]; done)
      · cases h
    | fn f a b =>
      simp only at h
      split at h
      · rename_i hu
        refine one _ (Option.some.inj h).symm fun xo yo w => ?_
        first | (simp [binRun, SV.den, eqGuard_nilFunc, binOp, equal_nil_fn hu, SB.den]; done) | (simp [binRun, SV.den, eqGuard_nilFunc, binOp, equal_nilFn hu, SB.den]; done)
      · rename_i hu
        refine one _ (Option.some.inj h).symm fun xo yo w => ?_
        first | (simp [binRun, SV.den, eqGuard_nilFunc, binOp, equal_nil_fn hu, SB.den]; done) | (simp [binRun, SV.den, eqGuard_nilFunc, binOp, equal_nilFn hu, SB.den]; done)
      · cases h
    | _ => simp at h
  | agg xs =>
    cases y with
    | agg ys =>
      simp only at h
      split at h
      · rename_i fs hu
        split at h
        · rename_i hc
          simp only [Bool.and_eq_true, Bool.not_eq_true'] at hc
          obtain ⟨⟨⟨⟨c1, c2⟩, c3⟩, c4⟩, c5⟩ := hc
          have c2 := Nat.eq_of_beq_eq_true c2
          have c3 := Nat.eq_of_beq_eq_true c3
          have hfo : P.fieldsOf t = fs := by simp [Program.fieldsOf, hu]
          have key : ∀ e, eqL xs ys = some e → ∀ w, (Op.equalIn 10000 t (.agg (denL ν ρ xs).toArray) (.agg (denL ν ρ ys).toArray)).run P w = .ok (e.den ν) w := by
            intro e he w
            show (Op.equalIn (9998 + 1 + 1) t _ _).run P w = _
            rw [run_equalIn_struct w (9998 + 1) t _ _ (by rw [hfo]; exact hu) c4, hfo]
            exact eqFields_flat 9998 w fs.toList 0 e c1 (by simpa using c2) (by simpa using c3) (by simpa using he)
          split at h
          · rename_i e he
            refine one _ (Option.some.inj h).symm fun xo yo w => ?_
            simp only [binRun, SV.den, Sem.run_bind, run_eqGuard_agg w _ t xo yo _ _ c5, Result.andThen_ok, run_eql_struct, key e he w]
          · rename_i e he
            refine one _ (Option.some.inj h).symm fun xo yo w => ?_
            simp only [binRun, SV.den, Sem.run_bind, run_eqGuard_agg w _ t xo yo _ _ c5, Result.andThen_ok, run_neq_struct, key e he w, SB.mkNot_den]
          · cases h
        · cases h
      · cases h
    | _ => simp at h
  | nilSl =>
    cases y with
    | nilSl =>
      simp only at h
      split at h
      · rename_i hu
        refine one _ (Option.some.inj h).symm fun xo yo w => ?_
        simp [binRun, SV.den, eqGuard_slice, binOp, equal_sl_nil hu, SB.den]
      · rename_i hu
        refine one _ (Option.some.inj h).symm fun xo yo w => ?_
        simp [binRun, SV.den, eqGuard_slice, binOp, equal_sl_nil hu, SB.den]
      · cases h
    | _ => simp at h
  | sl b o n c =>
    cases y with
    | nilSl =>
      simp only at h
      split at h
      · rename_i hu
        refine one _ (Option.some.inj h).symm fun xo yo w => ?_
        simp [binRun, SV.den, eqGuard_slice, binOp, equal_sl_nil hu, SB.den]
      · rename_i hu
        refine one _ (Option.some.inj h).symm fun xo yo w => ?_
        simp [binRun, SV.den, eqGuard_slice, binOp, equal_sl_nil hu, SB.den]
      · cases h
    | _ => simp at h
  | emp i =>
    cases y with
    | nilSl =>
      simp only at h
      split at h
      · rename_i hu
        refine one _ (Option.some.inj h).symm fun xo yo w => ?_
        simp [binRun, SV.den, eqGuard_slice, binOp, equal_sl_nil hu, SB.den]
      · rename_i hu
        refine one _ (Option.some.inj h).symm fun xo yo w => ?_
        simp [binRun, SV.den, eqGuard_slice, binOp, equal_sl_nil hu, SB.den]
      · cases h
    | _ => simp at h
  | _ => cases y <;> simp at h
end
end Go.Sy
