import Derived.Test.YtjcphbcjnjeccaaSy6
set_option linter.unusedVariables false
set_option linter.unusedSimpArgs false
namespace Go.Sy
open Go

section
variable {P : Program} {G : Type} {ν : Env G} {ρ : Nat → Nat}

theorem unX_run {op : UnOp} {x v : SV} (h : unX op x = some v) (w : World) : (Op.unary op (x.den ν ρ)).run P w = .ok (v.den ν ρ) w := by
  unfold unX at h
  split at h
  · split at h
    · cases h; simp [SV.den, Op.unary, Op.intArith, SI.mkWrap_den, SI.mkSub_den, SI.den]
    · cases h; simp [SV.den, Op.unary, Op.intBits, SI.mkBits_den, SI.den, bitsDen]
    · cases h
  · split at h
    · cases h; simp [SV.den, Op.unary, SB.mkNot_den]
    · cases h
  · cases h

theorem run_sliceBound (k : IntKind) (n y : Nat) (c : BoundsCode) (h : n ≤ y) (w : World) : (Instr.sliceBound (.int k (n : Int)) y c).run P w = .ok n w := by
  have : (0 : Int) ≤ n ∧ (n : Int) ≤ y := ⟨by omega, by omega⟩
  simp [Instr.sliceBound, asIntOf, this, h]

/-- the three bounds, all literal. -/
theorem run_bounds (len cap m hh l : Nat) (lo hi mx : Option Value)
    (hm : (mx = none ∧ m = cap) ∨ ∃ k, mx = some (.int k (m : Int))) (hh' : (hi = none ∧ mx = none ∧ hh = len) ∨ ∃ k, hi = some (.int k (hh : Int))) (hl : (lo = none ∧ l = 0) ∨ ∃ k, lo = some (.int k (l : Int)))
    (h1 : m ≤ cap) (h2 : hh ≤ m) (h3 : l ≤ hh) (w : World) : (Instr.sliceBounds true len cap lo hi mx).run P w = .ok (l, hh, m) w := by
  unfold Instr.sliceBounds
  rcases hm with ⟨rfl, rfl⟩ | ⟨k, rfl⟩ <;> rcases hh' with ⟨rfl, hx, rfl⟩ | ⟨k', rfl⟩ <;> rcases hl with ⟨rfl, rfl⟩ | ⟨k'', rfl⟩ <;>
    first
      | (cases hx; done)
      | simp [run_sliceBound, h1, h2, h3]

theorem litX_den {d k : Nat} {x : Option SV} (h : litX d x = some k) : (x = none ∧ k = d) ∨ ∃ j, (x.map (·.den ν ρ)) = some (.int j (k : Int)) := by
  unfold litX at h
  split at h
  · cases h; exact .inl ⟨rfl, rfl⟩
  · rename_i j n; cases h; exact .inr ⟨j, by simp [SV.den, SI.den]⟩
  · cases h

theorem sliceX_run {t : Nat} {x v : SV} {lo hi mx : Option SV} (h : sliceX P t x lo hi mx = some v) (w : World) :
    (Instr.sliceAt t (x.den ν ρ) (lo.map (·.den ν ρ)) (hi.map (·.den ν ρ)) (mx.map (·.den ν ρ))).run P w = .ok (v.den ν ρ) w := by
  unfold sliceX at h
  split at h
  · rename_i e hu
    split at h
    · rename_i n hn
      split at h
      · cases h
      · rename_i hb
        have key : ∀ (len cap m hh l : Nat), litX cap mx = some m → litX len hi = some hh → litX 0 lo = some l → m ≤ cap → hh ≤ m → l ≤ hh →
            (Instr.sliceBounds true len cap (lo.map (·.den ν ρ)) (hi.map (·.den ν ρ)) (mx.map (·.den ν ρ))).run P w = .ok (l, hh, m) w := by
          intro len cap m hh l hm hhh hl c1 c2 c3
          have g1 := litX_den (ν := ν) (ρ := ρ) hm
          have g2 := litX_den (ν := ν) (ρ := ρ) hhh
          have g3 := litX_den (ν := ν) (ρ := ρ) hl
          refine run_bounds (P := P) len cap m hh l _ _ _ (g1.imp (fun h => by simp [h.1, h.2]) id) ?_ (g3.imp (fun h => by simp [h.1, h.2]) id) c1 c2 c3 w
          rcases g2 with ⟨h1, h2⟩ | h
          · refine .inl ⟨by simp [h1], ?_, h2⟩
            rw [h1] at hb
            cases mx <;> simp_all
          · exact .inr h
        split at h
        · -- nil
          split at h
          · rename_i m hh l hm hhh hl
            split at h
            · rename_i hc
              simp only [Bool.and_eq_true] at hc
              have c1 := Nat.eq_of_beq_eq_true hc.1.1
              have c2 := Nat.eq_of_beq_eq_true hc.1.2
              have c3 := Nat.eq_of_beq_eq_true hc.2
              subst c1 c2 c3
              cases h
              have := key 0 0 0 0 0 hm hhh hl (Nat.le_refl _) (Nat.le_refl _) (Nat.le_refl _)
              simp [Instr.sliceAt, Instr.slice, SV.den, run_underlying hu, this, sizeT_run hn]
            · cases h
          · cases h
        · -- literal
          rename_i b off len cap
          split at h
          · rename_i m hh l hm hhh hl
            split at h
            · rename_i hc
              simp only [Bool.and_eq_true] at hc
              have c1 := Nat.le_of_ble_eq_true hc.1.1
              have c2 := Nat.le_of_ble_eq_true hc.1.2
              have c3 := Nat.le_of_ble_eq_true hc.2
              cases h
              have := key len cap m hh l hm hhh hl c1 c2 c3
              have e1 : (Int.ofNat len).toNat = len := rfl
              have e2 : (Int.ofNat cap).toNat = cap := rfl
              have e3 : (Int.ofNat off).toNat = off := rfl
              simp only [Instr.sliceAt, Instr.slice, SV.den, SI.den, Sem.run_bind, run_underlying hu, Result.andThen_ok, e1, e2, e3, this, sizeT_run hn, Sem.run_pure]
              by_cases hml : m = l
              · subst hml; simp
              · have : Nat.beq m l = false := by
                  cases hq : Nat.beq m l
                  · rfl
                  · exact absurd (Nat.eq_of_beq_eq_true hq) hml
                simp [hml, this, add_none]
            · cases h
          · cases h
        · cases h
    · cases h
  · cases h

theorem lenX_den {x : SV} {n : Nat} (h : lenX x = some n) : (x = .nilSl ∧ n = 0) ∨ ∃ b off cap, x = .sl b off (.lit (.ofNat n)) cap := by
  unfold lenX at h
  split at h
  · cases h; exact .inl ⟨rfl, rfl⟩
  · rename_i b off m cap; cases h; exact .inr ⟨b, off, cap, rfl⟩
  · cases h

variable {B : Base} {hp : Heap} {w : World}
theorem cellsX_den (h : HW B ν ρ hp w) {k : Nat} {b : Nat} {off len cap : SI} {cs : List SV} (hc : cellsX hp k (.sl b off len cap) = some cs) :
    cs.length = k ∧ ∀ j u, (denL ν ρ cs)[j]? = some u → w.cell? ((⟨ρ b, (off.den ν).toNat, none⟩ : Addr).add j) = some u := by
  unfold cellsX at hc
  split at hc
  · cases ‹SV.sl b off len cap = SV.nilSl›
  · rename_i b' off' l' c' heq
    cases heq
    split at hc
    · rename_i cells ty ex hg
      split at hc
      · rename_i hle
        have hle' := Nat.le_of_ble_eq_true hle
        cases hc
        obtain ⟨rest, hr, _⟩ := h.row (hget_mem hg)
        refine ⟨by simp; omega, fun j u hj => ?_⟩
        rw [add_none, cell_at hr]
        rw [denL_take, denL_drop, List.getElem?_take] at hj
        split at hj
        · rw [List.getElem?_drop] at hj
          rw [List.getElem?_append_left]
          · exact hj
          · exact (List.getElem?_eq_some_iff.1 hj).1
        · cases hj
      · cases hc
    · cases hc
  · cases hc


theorem arr_app (l : List Value) (A : Array Value) : l.toArray ++ A = (l ++ A.toList).toArray := by
  apply Array.ext'; simp

theorem HW.grown (h : HW B ν ρ hp w) {nm e c : Nat} {cs : List SV} {rest : List Value} (hav' : hav nm (nm + 1) hp = true) (hcs : avL nm (nm + 1) cs = true) :
    HW B (ν.updI nm c) (upd ρ nm w.heap.size) (hadd nm (.cells cs e false) hp) (w.drew.alloc (.cells (denL ν ρ cs ++ rest).toArray e)) := by
  have h' := h.drew
  have hag : Agree nm (nm + 1) ν (ν.updI nm c) ρ (upd ρ nm w.drew.heap.size) := agree_updI nm w.heap.size c
  refine h'.new (ν' := ν.updI nm c) (n := nm) (b := .cells cs e false) (o := .cells (denL ν ρ cs ++ rest).toArray e) hag hav' ?_
  simp only [BlkDen]
  refine ⟨⟨rest, ?_⟩, by simp [upd]⟩
  rw [show upd ρ nm w.drew.heap.size nm = w.drew.heap.size by simp [upd], denL_agree hag cs hcs]
  exact heap_alloc_new w.drew _

theorem appendX_run (h : HW B ν ρ hp w) {nm t : Nat} {s x v : SV} {hp' : Heap} (hav' : hav nm (nm + 1) hp = true) (ha : appendX P nm hp t s x = some (v, hp')) (ty : TypeId) :
    ∃ ν' ρ' w', Agree nm (nm + 1) ν ν' ρ ρ' ∧ (Builtin.append_ #[t, t] ty #[s.den ν ρ, x.den ν ρ]).run P w = .ok (v.den ν' ρ') w' ∧ HW B ν' ρ' hp' w' := by
  unfold appendX at ha
  split at ha
  · rename_i e hu
    split at ha
    · rename_i n z ls lx inf hn hz hls hlx hinf
      obtain ⟨i, zv, hi, hzv, hzd⟩ := zeroT_info (ν := ν) (ρ := ρ) hz
      have hii : inf = i := Option.some.inj (hinf.symm.trans hi)
      subst hii
      have hsz : inf.size = n := by unfold sizeT at hn; rw [hi] at hn; simpa using hn
      have key : ∀ cap, ((s = .nilSl ∧ cap = 0) ∨ ∃ b off len, s = .sl b off len (.lit (.ofNat cap))) → appendX.grow nm hp s x e n z ls lx cap inf.bytes = some (v, hp') →
          ∃ ν' ρ' w', Agree nm (nm + 1) ν ν' ρ ρ' ∧ (Builtin.append_ #[t, t] ty #[s.den ν ρ, x.den ν ρ]).run P w = .ok (v.den ν' ρ') w' ∧ HW B ν' ρ' hp' w' := by
        intro cap hs hg
        unfold appendX.grow at hg
        split at hg
        · -- nothing
          rename_i hc
          simp only [Bool.and_eq_true] at hc
          have c1 := Nat.eq_of_beq_eq_true hc.1
          have c2 := Nat.le_of_ble_eq_true hc.2
          cases hg
          refine ⟨ν, ρ, w, Agree.refl _ _ _ _, ?_, h⟩
          subst c1
          have hx : ∃ a c, x.den ν ρ = .slice a 0 c := by
            rcases lenX_den hlx with ⟨rfl, _⟩ | ⟨b, off, c, rfl⟩
            · exact ⟨none, 0, rfl⟩
            · exact ⟨_, _, rfl⟩
          obtain ⟨a, c, hx⟩ := hx
          rw [hx]
          have hf : ∀ (a : Option Addr), (Builtin.firstCells inf.size 0 (.slice a 0 c)).run P w = .ok #[] w := by
            intro a; cases a <;> simp [Builtin.firstCells, loadCells, loadCellsFrom]
          rcases hs with ⟨rfl, rfl⟩ | ⟨b, off, len, rfl⟩
          · simp [SV.den, Builtin.append_, run_underlying hu, sizeOf, typeInfo, hi, Builtin.lenOf, hf]
          · rcases lenX_den hls with ⟨h0, _⟩ | ⟨b', off', c', h0⟩
            · cases h0
            · cases h0
              have : ls ≤ cap := c2
              simp [SV.den, SI.den, Builtin.append_, run_underlying hu, sizeOf, typeInfo, hi, Builtin.lenOf, hf, this, storeCells]
        · split at hg
          · cases hg
          · rename_i hroom
            split at hg
            · rename_i hc
              simp only [Bool.and_eq_true] at hc
              obtain ⟨⟨⟨⟨⟨⟨d1, d2⟩, d3⟩, d4⟩, d5⟩, d6⟩, d7⟩ := hc
              have d1 := Nat.le_of_ble_eq_true d1
              have d2 := Nat.le_of_ble_eq_true d2
              have d3 := Nat.le_of_ble_eq_true d3
              have d4 := Nat.le_of_ble_eq_true d4
              have hlt : cap < ls + lx := by
                rcases Nat.lt_or_ge cap (ls + lx) with h | h
                · exact h
                · exact absurd (Nat.ble_eq_true_of_le h) hroom
              split at hg
              · rename_i old new hold hnew
                split at hg
                · rename_i hav2
                  cases hg
                  rcases lenX_den hlx with ⟨rfl, h0⟩ | ⟨bx, offx, cx, rfl⟩
                  · omega
                  · obtain ⟨hl2, hn2⟩ := cellsX_den h hnew
                    have hmul : (ls + lx) * inf.bytes ≤ 1024 * 1024 := Nat.mul_le_mul d2 d4
                    rcases hs with ⟨rfl, rfl⟩ | ⟨b, off, len, rfl⟩
                    · rcases lenX_den hls with ⟨_, h0⟩ | ⟨b', off', c', h0⟩
                      · subst h0
                        simp only [Nat.zero_mul, cellsX] at hold
                        have hold0 : old = [] := by simpa using hold.symm
                        subst hold0
                        have hr := run_append_nil (P := P) w t ty e inf zv hu hi hzv ⟨ρ bx, (offx.den ν).toNat, none⟩ lx (cx.den ν).toNat (denL ν ρ new) (by rw [denL_length, hl2, hsz]) hn2 (by omega) (by omega) (by simp only [Nat.zero_add] at hmul; omega)
                        refine ⟨_, _, _, agree_updI nm w.heap.size ((grownCap w lx 0 e : Nat) : Int), ?_, h.grown (cs := [] ++ new) (rest := (Builtin.zeroCells zv.cells (grownCap w lx 0 e - lx)).toList) hav' hav2⟩
                        simp only [SV.den, SI.den] at hr ⊢
                        rw [show (Int.ofNat lx).toNat = lx from rfl, hr]
                        simp [upd, Env.updI]
                        rw [arr_app]
                      · cases h0
                    · rcases lenX_den hls with ⟨h0, _⟩ | ⟨b', off', c', h0⟩
                      · cases h0
                      · cases h0
                        obtain ⟨hl1, hn1⟩ := cellsX_den h hold
                        have hr := run_append_grow (P := P) w t ty e inf zv hu hi hzv ⟨ρ b, (off.den ν).toNat, none⟩ ls cap (denL ν ρ old) (by rw [denL_length, hl1, hsz]) hn1 ⟨ρ bx, (offx.den ν).toNat, none⟩ lx (cx.den ν).toNat (denL ν ρ new) (by rw [denL_length, hl2, hsz]) hn2 hlt (by omega) (growslice_fits (by omega) (by omega))
                        refine ⟨_, _, _, agree_updI nm w.heap.size ((grownCap w (ls + lx) cap e : Nat) : Int), ?_, h.grown (cs := old ++ new) (rest := (Builtin.zeroCells zv.cells (grownCap w (ls + lx) cap e - (ls + lx))).toList) hav' hav2⟩
                        simp only [SV.den, SI.den] at hr ⊢
                        rw [show (Int.ofNat lx).toNat = lx from rfl, show (Int.ofNat ls).toNat = ls from rfl, show (Int.ofNat cap).toNat = cap from rfl, hr]
                        simp [upd, Env.updI, denL_append]
                        exact ⟨by omega, by rw [arr_app, List.append_assoc]⟩
                · cases hg
              · cases hg
            · cases hg
      split at ha
      · exact key 0 (.inl ⟨rfl, rfl⟩) ha
      · rename_i b off len cap; exact key cap (.inr ⟨b, off, len, rfl⟩) ha
      · cases ha
    · cases ha
  · cases ha
/-! ### rows of integers -/
theorem toSL_den {k : IntKind} : ∀ {cs : List SV} {l : SL}, toSL k cs = some l → denL ν ρ cs = (l.den ν).map (Value.int k)
  | [], l, h => by simp only [toSL, Option.some.injEq] at h; subst h; simp [denL, SL.den]
  | .int j e :: r, l, h => by
    unfold toSL at h
    split at h
    · rename_i hk
      have hk := kBeq_eq hk
      subst hk
      simp only [Option.map_eq_some_iff] at h
      obtain ⟨l', hl, rfl⟩ := h
      simp [denL, SV.den, SL.den, toSL_den hl]
    · cases h
  | .bool _ :: _, _, h | .gv _ _ _ :: _, _, h | .osl _ _ _ :: _, _, h | .ptr _ _ :: _, _, h | .nilPtr :: _, _, h | .nilFunc :: _, _, h | .fn _ _ _ :: _, _, h | .nilSl :: _, _, h | .emp _ :: _, _, h | .dead :: _, _, h | .sl _ _ _ _ :: _, _, h | .opq _ :: _, _, h | .agg _ :: _, _, h | .tup _ :: _, _, h => by simp [toSL] at h

theorem asRow_den (h : HW B ν ρ hp w) {b : Nat} {bk : SBk} (hg : (b, bk) ∈ hp) {k : IntKind} {l : SL} {c : SI} {ty : Nat} (ha : asRow P bk = some (k, l, c, ty)) :
    ∃ rest : List Value, w.heap[ρ b]? = some (.cells ((l.den ν).map (Value.int k) ++ rest).toArray ty (0, 0)) ∧ c.den ν = ((l.den ν).length + rest.length : Nat) ∧ c.den ν ≤ 9223372036854775807 := by
  unfold asRow at ha
  split at ha
  · cases ha; exact h.ints hg
  · rename_i cs ty'
    split at ha
    · rename_i kk hu
      split at ha
      · rename_i hle
        have hle := Nat.le_of_ble_eq_true hle
        simp only [Option.map_eq_some_iff, Prod.mk.injEq] at ha
        obtain ⟨l', hl, rfl, rfl, rfl, rfl⟩ := ha
        obtain ⟨rest, hr, hex⟩ := h.row hg
        have hre := hex rfl
        subst hre
        have ht := toSL_den (ν := ν) (ρ := ρ) hl
        have hlen : (l'.den ν).length = cs.length := by
          have := congrArg List.length ht
          simpa [denL_length] using this.symm
        refine ⟨[], by rw [← ht]; exact hr, by simp [SI.den, hlen], by simp only [SI.den]; omega⟩
      · cases ha
    · cases ha
  · cases ha

/-- A slice's value reads as these values. -/
def Reads (w : World) (v : Value) (xs : List Value) : Prop := ∃ a n c, v = .slice a n c ∧ xs.length = n ∧ ((xs = [] ∧ a = none) ∨ ∃ ad, a = some ad ∧ ∀ j u, xs[j]? = some u → w.cell? (ad.add j) = some u)

theorem listX_den (h : HW B ν ρ hp w) {pc : PC} (hd : pcDen ν pc) {k : IntKind} {x : SV} {ls : List (PC × Option SL)} (hl : listX P pc hp k x = some ls) :
    ∃ r ∈ ls, pcDen ν r.1 ∧ ∀ nl, r.2 = some nl → Reads w (x.den ν ρ) ((nl.den ν).map (Value.int k)) := by
  unfold listX at hl
  split at hl
  · cases hl
    refine ⟨_, by simp; rfl, pcDen_nil ν, fun nl hn => ?_⟩
    cases hn
    exact ⟨none, 0, 0, rfl, by simp [SL.den], .inl ⟨by simp [SL.den], rfl⟩⟩
  · cases hl
    refine ⟨_, by simp; rfl, pcDen_nil ν, fun nl hn => ?_⟩
    cases hn
    exact ⟨_, 0, 0, rfl, by simp [SL.den], .inr ⟨_, rfl, fun j u hu => by simp [SL.den] at hu⟩⟩
  · rename_i b off len cap
    split at hl
    · rename_i j o l hg
      split at hl
      · rename_i hk
        simp only [Bool.and_eq_true] at hk
        have hk1 := kBeq_eq hk.1
        have hk2 := SI.beq_eq hk.2
        subst hk1 hk2
        obtain ⟨h0, hcell⟩ := h.view (hget_mem hg)
        have key : ∀ (xs : List Int) (n : Nat), (len.den ν).toNat = n → xs.length = n → (∀ (i : Nat) (u : Int), xs[i]? = some u → (l.den ν)[i]? = some u) → Reads w ((SV.sl b off len cap).den ν ρ) (xs.map (Value.int j)) := by
          intro xs n hn hlen hsub
          refine ⟨_, _, _, rfl, by simp [hlen, hn], .inr ⟨_, rfl, fun i u hu => ?_⟩⟩
          rw [List.getElem?_map] at hu
          cases hx : xs[i]? with
          | none => rw [hx] at hu; cases hu
          | some z =>
            rw [hx] at hu
            rw [add_none, hcell i z (hsub i z hx)]
            exact hu
        split at hl
        · rename_i hb
          cases hl
          refine ⟨_, by simp; rfl, pcDen_nil ν, fun nl hn => ?_⟩
          cases hn
          have hlen : len.den ν = ((l.den ν).length : Int) := by rw [← SI.beq_eq hb, SI.mkLen_den]
          exact key _ (l.den ν).length (by rw [hlen]; simp) rfl (fun i u hu => hu)
        · cases hl
          obtain ⟨x, hx, h1, h2⟩ := ways_den (ν := ν) (cs := [SB.mkLe (.lit 0) len, SB.mkLe len (SI.mkLen l)]) (SL.mkTake l len) hd
          refine ⟨x, hx, h1, fun nl hn => ?_⟩
          obtain ⟨rfl, hc⟩ := h2 nl hn
          have c1 := hc (SB.mkLe (.lit 0) len) (by simp)
          have c2 := hc (SB.mkLe len (SI.mkLen l)) (by simp)
          rw [SB.mkLe_den] at c1
          rw [SB.mkLe_den, SI.mkLen_den] at c2
          replace c1 : (0 : Int) ≤ len.den ν := of_decide_eq_true c1
          replace c2 := of_decide_eq_true c2
          rw [SL.mkTake_den]
          exact key _ (len.den ν).toNat rfl (by simp; omega) (fun i u hu => by
            rw [List.getElem?_take] at hu
            split at hu
            · exact hu
            · cases hu)
      · cases hl
    · rename_i bk hg
      split at hl
      · rename_i j l c ty ha
        split at hl
        · rename_i hk
          have hk := kBeq_eq hk
          subst hk
          obtain ⟨rest, hr, hcap, _⟩ := asRow_den h (hget_mem hg) ha
          have key : ∀ (xs : List Int) (o n : Nat), (off.den ν).toNat = o → (len.den ν).toNat = n → xs.length = n → (∀ i u, xs[i]? = some u → (l.den ν)[o + i]? = some u) → Reads w ((SV.sl b off len cap).den ν ρ) (xs.map (Value.int j)) := by
            intro xs o n ho hn hlen hsub
            refine ⟨_, _, _, rfl, by simp [hlen, hn], .inr ⟨_, rfl, fun i u hu => ?_⟩⟩
            rw [ho, add_none, cell_at hr]
            rw [List.getElem?_map] at hu
            cases hx : xs[i]? with
            | none => rw [hx] at hu; cases hu
            | some z =>
              rw [hx] at hu
              have := hsub i z hx
              rw [List.getElem?_append_left (by simpa using (List.getElem?_eq_some_iff.1 this).1), List.getElem?_map, this]
              exact hu
          split at hl
          · split at hl
            · rename_i hb
              cases hl
              refine ⟨_, by simp; rfl, pcDen_nil ν, fun nl hn => ?_⟩
              cases hn
              have hlen : len.den ν = ((l.den ν).length : Int) := by rw [← SI.beq_eq hb, SI.mkLen_den]
              exact key _ 0 (l.den ν).length rfl (by rw [hlen]; simp) rfl (fun i u hu => by simpa using hu)
            · cases hl
              obtain ⟨x, hx, h1, h2⟩ := ways_den (ν := ν) (cs := [SB.mkLe (.lit 0) len, SB.mkLe len (SI.mkLen l)]) (SL.mkTake l len) hd
              refine ⟨x, hx, h1, fun nl hn => ?_⟩
              obtain ⟨rfl, hc⟩ := h2 nl hn
              have c1 := hc (SB.mkLe (.lit 0) len) (by simp)
              have c2 := hc (SB.mkLe len (SI.mkLen l)) (by simp)
              rw [SB.mkLe_den] at c1
              rw [SB.mkLe_den, SI.mkLen_den] at c2
              replace c1 : (0 : Int) ≤ len.den ν := of_decide_eq_true c1
              replace c2 := of_decide_eq_true c2
              rw [SL.mkTake_den]
              exact key _ 0 (len.den ν).toNat rfl rfl (by simp; omega) (fun i u hu => by
                rw [List.getElem?_take] at hu
                split at hu
                · simpa using hu
                · cases hu)
          · rename_i off0
            cases hl
            obtain ⟨x, hx, h1, h2⟩ := ways_den (ν := ν) (cs := [SB.mkLe (.lit 0) off, SB.mkLe (.lit 0) len, SB.mkLe (SI.mkAdd off len) (SI.mkLen l)]) (SL.mkTake (SL.mkDrop l off) len) hd
            refine ⟨x, hx, h1, fun nl hn => ?_⟩
            obtain ⟨rfl, hc⟩ := h2 nl hn
            have c1 := hc (SB.mkLe (.lit 0) off) (by simp)
            have c2 := hc (SB.mkLe (.lit 0) len) (by simp)
            have c3 := hc (SB.mkLe (SI.mkAdd off len) (SI.mkLen l)) (by simp)
            rw [SB.mkLe_den] at c1 c2
            rw [SB.mkLe_den, SI.mkLen_den, SI.mkAdd_den] at c3
            replace c1 : (0 : Int) ≤ off.den ν := of_decide_eq_true c1
            replace c2 : (0 : Int) ≤ len.den ν := of_decide_eq_true c2
            replace c3 := of_decide_eq_true c3
            simp only [SL.mkTake_den, SL.mkDrop_den]
            exact key _ (off.den ν).toNat (len.den ν).toNat rfl rfl (by simp; omega) (fun i u hu => by
              rw [List.getElem?_take] at hu
              split at hu
              · rw [List.getElem?_drop] at hu; exact hu
              · cases hu)
        · cases hl
      · cases hl
    · cases hl
  · cases hl

theorem herase_mem {b : Nat} {x : Nat × SBk} : x ∈ herase b hp ↔ x ∈ hp ∧ x.1 ≠ b := by
  unfold herase
  rw [List.mem_filter]
  constructor
  · rintro ⟨h1, h2⟩
    refine ⟨h1, fun e => ?_⟩
    rw [e] at h2
    simp at h2
  · rintro ⟨h1, h2⟩
    refine ⟨h1, ?_⟩
    cases hq : Nat.beq x.1 b
    · rfl
    · exact absurd (Nat.eq_of_beq_eq_true hq) h2

theorem hav_erase {lo hi b : Nat} (h : hav lo hi hp = true) : hav lo hi (herase b hp) = true := by
  induction hp with
  | nil => rfl
  | cons x r ih =>
    obtain ⟨m, c⟩ := x
    simp only [hav, Bool.and_eq_true] at h
    unfold herase at *
    rw [List.filter_cons]
    split
    · simp only [hav, Bool.and_eq_true]; exact ⟨h.1, ih h.2⟩
    · exact ih h.2
end
end Go.Sy
