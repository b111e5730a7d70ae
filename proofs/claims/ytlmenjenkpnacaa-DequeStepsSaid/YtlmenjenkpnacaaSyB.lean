/- Texts of one library, in one file. -/
import Derived.Test.YtlmenjenkpnacaaSyA
import Derived.Laws.StructEq
import Derived.Lib.AppendZerosOnto
set_option linter.unusedVariables false
set_option linter.unusedSimpArgs false

section
namespace Go.Sy
open Go

section
variable {P : Program} {G : Type}

theorem aggT_run {t : Nat} {b : Bool} (h : aggT P t = some b) (w : World) : (isAgg t).run P w = .ok b w := by
  unfold aggT at h
  unfold isAgg
  split at h
  · rename_i fs hu; cases h; simp [run_underlying hu]
  · rename_i n e hu; cases h; simp [run_underlying hu]
  · rename_i d h1 h2 hu
    cases h
    rw [Sem.run_bind, run_underlying hu]
    cases d <;> simp_all
  · cases h
theorem sizeT_run {t n : Nat} (h : sizeT P t = some n) (w : World) : (sizeOf t).run P w = .ok n w := by
  unfold sizeT at h
  cases hq : P.info? t with
  | none => simp [hq] at h
  | some i => simp [hq] at h; simp [sizeOf, typeInfo, hq, h]
theorem zeroT_run {t : Nat} {z : SV} (h : zeroT P t = some z) (ν : Env G) (ρ : Nat → Nat) (w : World) : (zeroValue t).run P w = .ok (z.den ν ρ) w := by
  unfold zeroT at h
  cases hq : P.info? t with
  | none => simp [hq] at h
  | some i =>
    simp only [hq, Option.bind_eq_some_iff] at h
    obtain ⟨v, hv, hz⟩ := h
    simp [zeroValue, typeInfo, hq, hv, ofV_den ν ρ hz]

variable {B : Base} {ν : Env G} {ρ : Nat → Nat} {hp : Heap} {w : World}

theorem BlkDen.row {F : Nat → Prop} {n : Nat} {cs : List SV} {ty : Nat} {ex : Bool} (h : BlkDen B ν ρ w F n (.cells cs ty ex)) :
    ∃ rest : List Value, w.heap[ρ n]? = some (.cells (denL ν ρ cs ++ rest).toArray ty (0, 0)) ∧ (ex = true → rest = []) := by
  cases ex <;> simp only [BlkDen] at h
  · obtain ⟨⟨r, hr⟩, _⟩ := h; exact ⟨r, hr, by simp⟩
  · exact ⟨[], by simpa using h.1, by simp⟩

theorem add_none (b off j : Nat) : (⟨b, off, none⟩ : Addr).add j = ⟨b, off + j, none⟩ := by
  unfold Addr.add
  split <;> simp_all

theorem cell_at {g : Nat} {l : List Value} {ty : Nat} {fz : Nat × Nat} (h : w.heap[g]? = some (.cells l.toArray ty fz)) (j : Nat) : w.cell? ⟨g, j, none⟩ = l[j]? := by
  rw [cell_of_row w g j _ ty fz h]; simp

theorem HW.row (h : HW B ν ρ hp w) {n : Nat} {cs : List SV} {ty : Nat} {ex : Bool} (hm : (n, SBk.cells cs ty ex) ∈ hp) :
    ∃ rest : List Value, w.heap[ρ n]? = some (.cells (denL ν ρ cs ++ rest).toArray ty (0, 0)) ∧ (ex = true → rest = []) := by
  obtain ⟨F, hF⟩ := h.at hm
  exact hF.row

theorem HW.ints (h : HW B ν ρ hp w) {n : Nat} {k : IntKind} {l : SL} {c : SI} {ty : Nat} (hm : (n, SBk.row k l c ty) ∈ hp) :
    ∃ rest : List Value, w.heap[ρ n]? = some (.cells ((l.den ν).map (Value.int k) ++ rest).toArray ty (0, 0)) ∧ c.den ν = ((l.den ν).length + rest.length : Nat) ∧ c.den ν ≤ 9223372036854775807 := by
  obtain ⟨F, hF⟩ := h.at hm
  simp only [BlkDen] at hF
  exact hF.1

theorem getD_some {l : List Int} {n : Nat} (h : n < l.length) : l[n]? = some (l.getD n 0) := by
  rw [List.getD_eq_getElem?_getD, List.getElem?_eq_getElem h]; rfl

theorem subOff0_den {o off i : SI} (h : subOff0 o off = some i) : off.den ν = o.den ν + i.den ν := by
  unfold subOff0 at h
  split at h
  · cases h; simp [SI.den]
  · cases h
theorem subOff_den {o off i : SI} (h : subOff o off = some i) : off.den ν = o.den ν + i.den ν := by
  unfold subOff at h
  split at h
  · rename_i hb; cases h; rw [SI.beq_eq hb]; simp [SI.den]
  · split at h
    · split at h
      · rename_i hb; cases h; simp only [SI.den]; rw [SI.beq_eq hb]
      · exact subOff0_den h
    · exact subOff0_den h

theorem rowOff_den {n : Nat} {o x i : SI} (h : rowOff n o x = some i) : x.den ν = o.den ν + i.den ν * n := by
  unfold rowOff at h
  split at h
  · split at h
    · rename_i hb
      simp only [Bool.and_eq_true] at hb
      cases h
      have := Nat.eq_of_beq_eq_true hb.2
      subst this
      simp only [SI.den]
      rw [SI.beq_eq hb.1]
      rfl
    · cases h
  · cases h
theorem tabOff_den {n : Nat} {o off i : SI} {j : Nat} (h : tabOff n o off = some (i, j)) : off.den ν = o.den ν + i.den ν * n + j := by
  unfold tabOff at h
  split at h
  · rename_i hb; cases h; rw [SI.beq_eq hb]; simp [SI.den]
  · split at h
    · rename_i x m _
      split at h
      · rename_i hb
        cases h
        simp only [SI.den]
        rw [SI.beq_eq hb]
        have h1 : ((m / n * n + m % n : Nat) : Int) = m := by rw [Nat.div_add_mod']
        have h2 : Int.ofNat (m / n) = ((m / n : Nat) : Int) := rfl
        have h3 : Int.ofNat m = (m : Int) := rfl
        rw [h2, h3]
        rw [Int.natCast_add, Int.natCast_mul] at h1
        omega
      · split at h
        · rename_i i' hr
          cases h
          have := rowOff_den (ν := ν) hr
          simp only [SI.den]
          rw [this]
          rfl
        · cases h
    · simp only [Option.map_eq_some_iff, Prod.mk.injEq] at h
      obtain ⟨i', hr, rfl, rfl⟩ := h
      rw [rowOff_den hr]
      simp

theorem tabX_den (g : SG) (f : Nat) (i : SI) (k : Option IntKind) : (tabX g f i k).den ν ρ = tabV ν.I (g.den ν) f (i.den ν) k := by
  cases k <;> simp [tabX, tabV, SV.den, SI.den, SB.den]
theorem tabL_get (g : SG) (i : SI) : ∀ (ks : List (Option IntKind)) (f j : Nat), (denL ν ρ (tabL g i f ks))[j]? = (ks[j]?).map (tabV ν.I (g.den ν) (f + j) (i.den ν))
  | [], f, j => by simp [tabL, denL]
  | k :: r, f, 0 => by simp [tabL, denL, tabX_den]
  | k :: r, f, j + 1 => by
    simp only [tabL, denL, List.getElem?_cons_succ]
    rw [tabL_get g i r (f + 1) j, show f + 1 + j = f + (j + 1) by omega]
theorem tabL_length (g : SG) (i : SI) : ∀ (ks : List (Option IntKind)) (f : Nat), (tabL g i f ks).length = ks.length
  | [], f => rfl
  | k :: r, f => by simp [tabL, tabL_length g i r (f + 1)]

theorem HW.kept_cell (h : HW B ν ρ hp w) {k : Nat} (hk : ¬ B.own k) (j : Nat) : w.cell? ⟨k, j, none⟩ = B.w0.cell? ⟨k, j, none⟩ := by
  have := h.kept k hk
  simp [World.cell?, this]

theorem HW.view (h : HW B ν ρ hp w) {n : Nat} {k : IntKind} {o : SI} {l : SL} (hm : (n, SBk.view k o l) ∈ hp) :
    0 ≤ o.den ν ∧ ∀ j x, (l.den ν)[j]? = some x → w.cell? ⟨ρ n, (o.den ν).toNat + j, none⟩ = some (.int k x) := by
  obtain ⟨F, hF⟩ := h.at hm
  simp only [BlkDen] at hF
  exact ⟨hF.2.2.1, fun j x hx => by rw [h.kept_cell hF.2.1]; exact hF.2.2.2 j x hx⟩
theorem HW.tab (h : HW B ν ρ hp w) {n f : Nat} {g : SG} {ks : List (Option IntKind)} {o len : SI} (hm : (n, SBk.tab f g ks o len) ∈ hp) :
    0 ≤ o.den ν ∧ ∀ (i j : Nat) k, i < (len.den ν).toNat → ks[j]? = some k → w.cell? ⟨ρ n, (o.den ν).toNat + (i * ks.length + j), none⟩ = some (tabV ν.I (g.den ν) (f + j) i k) := by
  obtain ⟨F, hF⟩ := h.at hm
  simp only [BlkDen] at hF
  exact ⟨hF.2.2.1, fun i j k hi hk => by rw [h.kept_cell hF.2.1]; exact hF.2.2.2 i j k hi hk⟩

theorem nn_find {pc : PC} (hd : pcDen ν pc) {e : SI} (h : (pcFind (.lt e (.lit 0)) pc == some false) = true) : 0 ≤ e.den ν := by
  have h2 : pcFind (.lt e (.lit 0)) pc = some false := by simpa using h
  have := pcFind_den hd h2
  have h3 := of_decide_eq_false this
  simp only [SI.den] at h3
  omega
theorem SI.nn_den {pc : PC} (hd : pcDen ν pc) : ∀ (e : SI), e.nn pc = true → 0 ≤ e.den ν
  | .lit (.ofNat n), _ => Int.natCast_nonneg n
  | .lit (.negSucc n), h => by simp [SI.nn] at h
  | .len l, _ => Int.natCast_nonneg _
  | .nat a, _ => Int.natCast_nonneg _
  | .add a b, h => by
    simp only [SI.nn, Bool.or_eq_true, Bool.and_eq_true] at h
    rcases h with ⟨h1, h2⟩ | h
    · exact Int.add_nonneg (SI.nn_den hd a h1) (SI.nn_den hd b h2)
    · exact nn_find hd h
  | .mul a b, h => by
    simp only [SI.nn, Bool.or_eq_true, Bool.and_eq_true] at h
    rcases h with ⟨h1, h2⟩ | h
    · exact Int.mul_nonneg (SI.nn_den hd a h1) (SI.nn_den hd b h2)
    · exact nn_find hd h
  | .var _, h | .sub _ _, h | .tdiv _ _, h | .tmod _ _, h | .fdiv _ _, h | .wrap _ _, h | .bits _ _ _ _, h | .nth _ _, h | .gi _ _ _ _, h => nn_find hd h

theorem loadX_run (h : HW B ν ρ hp w) {pc : PC} (hd : pcDen ν pc) {t : Nat} {p : SV} {l : List (PC × Option SV)} (hl : loadX P pc hp t p = some l) :
    ∃ x ∈ l, pcDen ν x.1 ∧ ∀ v, x.2 = some v → (Instr.loadAt t (p.den ν ρ)).run P w = .ok (v.den ν ρ) w := by
  unfold loadX at hl
  split at hl
  · rename_i b off
    split at hl
    · rename_i cs ty ex hg
      split at hl
      · rename_i off
        obtain ⟨rest, hr, _⟩ := h.row (hget_mem hg)
        split at hl
        · rename_i n ha hs
          split at hl
          · rename_i hle
            have hle' := Nat.le_of_ble_eq_true hle
            cases hl
            refine ⟨_, by simp; rfl, pcDen_nil ν, fun v hv => ?_⟩
            cases hv
            have hlen : (denL ν ρ ((cs.drop off).take n)).length = n := by rw [denL_length]; simp; omega
            have hc := run_loadCells_list (P := P) w ⟨ρ b, off, none⟩ (denL ν ρ ((cs.drop off).take n)) (fun j x hj => by
              rw [add_none, cell_at hr]
              rw [denL_take, denL_drop, List.getElem?_take] at hj
              split at hj
              · rw [List.getElem?_drop] at hj
                rw [List.getElem?_append_left]
                · exact hj
                · exact (List.getElem?_eq_some_iff.1 hj).1
              · cases hj)
            rw [hlen] at hc
            simp [SV.den, SI.den, Instr.loadAt, Instr.sureAddr, loadVar, aggT_run ha, sizeT_run hs, hc]
          · cases hl
        · rename_i ha hs
          simp only [Option.map_eq_some_iff] at hl
          obtain ⟨v, hv, rfl⟩ := hl
          refine ⟨_, by simp; rfl, pcDen_nil ν, fun u hu => ?_⟩
          cases hu
          have hc : w.cell? ⟨ρ b, off, none⟩ = some (v.den ν ρ) := by
            rw [cell_at hr, List.getElem?_append_left (by rw [denL_length]; exact (List.getElem?_eq_some_iff.1 hv).1), denL_get, hv]
            rfl
          simp [SV.den, SI.den, Instr.loadAt, Instr.sureAddr, loadVar, aggT_run ha, hc]
        · cases hl
      · cases hl
    · rename_i k l' c ty hg
      split at hl
      · rename_i kk hu
        cases hl
        obtain ⟨x, hx, h1, h2⟩ := ways_den (ν := ν) (cs := [SB.mkLe (.lit 0) off, SB.mkLt off (SI.mkLen l')]) (SV.int k (SI.mkNth l' off)) hd
        refine ⟨x, hx, h1, fun v hv => ?_⟩
        obtain ⟨rfl, hc⟩ := h2 v hv
        have c1 := hc (SB.mkLe (.lit 0) off) (by simp)
        have c2 := hc (SB.mkLt off (SI.mkLen l')) (by simp)
        rw [SB.mkLe_den] at c1
        rw [SB.mkLt_den, SI.mkLen_den] at c2
        replace c1 : (0 : Int) ≤ off.den ν := of_decide_eq_true c1
        replace c2 := of_decide_eq_true c2
        obtain ⟨rest, hr, _⟩ := h.ints (hget_mem hg)
        have hlt : (off.den ν).toNat < (l'.den ν).length := by omega
        have hcell : w.cell? ⟨ρ b, (off.den ν).toNat, none⟩ = some (.int k ((l'.den ν).getD (off.den ν).toNat 0)) := by
          rw [cell_at hr, List.getElem?_append_left (by simpa using hlt), List.getElem?_map, getD_some hlt]
          rfl
        have hagg : (isAgg t).run P w = .ok false w := by simp [isAgg, run_underlying hu]
        simp [SV.den, Instr.loadAt, Instr.sureAddr, loadVar, hagg, hcell, SI.mkNth_den]
      · cases hl
    · rename_i k o l' hg
      split at hl
      · rename_i kk i hu hsub
        cases hl
        obtain ⟨x, hx, h1, h2⟩ := ways_den (ν := ν) (cs := [SB.mkLe (.lit 0) i, SB.mkLt i (SI.mkLen l')]) (SV.int k (SI.mkNth l' i)) hd
        refine ⟨x, hx, h1, fun v hv => ?_⟩
        obtain ⟨rfl, hc⟩ := h2 v hv
        have c1 := hc (SB.mkLe (.lit 0) i) (by simp)
        have c2 := hc (SB.mkLt i (SI.mkLen l')) (by simp)
        rw [SB.mkLe_den] at c1
        rw [SB.mkLt_den, SI.mkLen_den] at c2
        replace c1 : (0 : Int) ≤ i.den ν := of_decide_eq_true c1
        replace c2 := of_decide_eq_true c2
        obtain ⟨h0, hcell⟩ := h.view (hget_mem hg)
        have hlt : (i.den ν).toNat < (l'.den ν).length := by omega
        have ho := subOff_den (ν := ν) hsub
        have ho2 : (off.den ν).toNat = (o.den ν).toNat + (i.den ν).toNat := by omega
        have hcell2 := hcell _ _ (getD_some hlt)
        have hagg : (isAgg t).run P w = .ok false w := by simp [isAgg, run_underlying hu]
        simp [SV.den, Instr.loadAt, Instr.sureAddr, loadVar, hagg, ho2, hcell2, SI.mkNth_den]
      · cases hl
    · rename_i f g ks o len hg
      split at hl
      · rename_i i j htab
        have ho := tabOff_den (ν := ν) htab
        obtain ⟨h0, hcell⟩ := h.tab (hget_mem hg)
        have hmul : ∀ (q : Nat), i.den ν = (q : Int) → i.den ν * (ks.length : Int) = ((q * ks.length : Nat) : Int) := fun q hq => by rw [hq, Int.natCast_mul]
        split at hl
        · rename_i n ha hs
          split at hl
          · rename_i hc
            simp only [Bool.and_eq_true] at hc
            have hj := Nat.eq_of_beq_eq_true hc.1
            have hn := Nat.eq_of_beq_eq_true hc.2
            subst hj hn
            cases hl
            obtain ⟨x, hx, h1, h2⟩ := ways_den (ν := ν) (cs := [SB.mkLe (.lit 0) i, SB.mkLt i len]) (SV.agg (tabL g i f ks)) hd
            refine ⟨x, hx, h1, fun v hv => ?_⟩
            obtain ⟨rfl, hc⟩ := h2 v hv
            have c1 := hc (SB.mkLe (.lit 0) i) (by simp)
            have c2 := hc (SB.mkLt i len) (by simp)
            rw [SB.mkLe_den] at c1
            rw [SB.mkLt_den] at c2
            replace c1 : (0 : Int) ≤ i.den ν := of_decide_eq_true c1
            replace c2 := of_decide_eq_true c2
            obtain ⟨q, hq⟩ : ∃ q : Nat, i.den ν = (q : Int) := ⟨(i.den ν).toNat, by omega⟩
            have ho2 : (off.den ν).toNat = (o.den ν).toNat + q * ks.length := by rw [hmul q hq] at ho; omega
            have hlc := run_loadCells_list (P := P) w ⟨ρ b, (off.den ν).toNat, none⟩ (denL ν ρ (tabL g i f ks)) (fun jj u hjj => by
              rw [tabL_get] at hjj
              cases hk : ks[jj]? with
              | none => rw [hk] at hjj; cases hjj
              | some kk =>
                rw [hk, hq] at hjj
                have := hcell q jj kk (by omega) hk
                rw [add_none, ho2, Nat.add_assoc, this]
                exact hjj)
            rw [denL_length, tabL_length] at hlc
            simp [SV.den, Instr.loadAt, Instr.sureAddr, loadVar, aggT_run ha, sizeT_run hs, hlc]
          · cases hl
        · rename_i n ha hs
          split at hl
          · rename_i k hk
            cases hl
            obtain ⟨x, hx, h1, h2⟩ := ways_den (ν := ν) (cs := [SB.mkLe (.lit 0) i, SB.mkLt i len]) (tabX g (f + j) i k) hd
            refine ⟨x, hx, h1, fun v hv => ?_⟩
            obtain ⟨rfl, hc⟩ := h2 v hv
            have c1 := hc (SB.mkLe (.lit 0) i) (by simp)
            have c2 := hc (SB.mkLt i len) (by simp)
            rw [SB.mkLe_den] at c1
            rw [SB.mkLt_den] at c2
            replace c1 : (0 : Int) ≤ i.den ν := of_decide_eq_true c1
            replace c2 := of_decide_eq_true c2
            obtain ⟨q, hq⟩ : ∃ q : Nat, i.den ν = (q : Int) := ⟨(i.den ν).toNat, by omega⟩
            have ho2 : (off.den ν).toNat = (o.den ν).toNat + (q * ks.length + j) := by rw [hmul q hq] at ho; omega
            have hcell2 := hcell q j k (by omega) hk
            simp only [SV.den, Instr.loadAt, Instr.sureAddr, loadVar, Sem.run_bind, Sem.run_pure, Result.andThen_ok, aggT_run ha]
            rw [ho2, tabX_den, hq]
            simp [hcell2]
          · cases hl
        · cases hl
      · cases hl
    · cases hl
  · cases hl

theorem cells_den (v : SV) : (v.den ν ρ).cells = (denL ν ρ v.cellsOf).toArray := by
  cases v with
  | opq i =>
    have := ν.vo i
    simp only [SV.den, SV.cellsOf, denL]
    cases hv : ν.v i <;> simp_all [Value.cells, Value.oneCell']
  | gv f g i =>
    have := ν.I.gvo f (g.den ν) (i.den ν)
    simp only [SV.den, SV.cellsOf, denL]
    cases hv : ν.I.gv f (g.den ν) (i.den ν) <;> simp_all [Value.cells, Value.oneCell']
  | osl b l c => simp only [SV.den, SV.cellsOf, denL]; split <;> simp [Value.cells]
  | _ => simp [SV.den, Value.cells, SV.cellsOf, denL]

theorem one_den {v : SV} (h : v.one = true) : (v.den ν ρ).oneCell' = true := by
  cases v with
  | opq i => exact ν.vo _
  | gv f g i => exact ν.I.gvo _ _ _
  | osl b l c => simp only [SV.den]; split <;> rfl
  | _ => simp_all [SV.one, SV.den, Value.oneCell']

theorem splice_den (cs : List SV) (off : Nat) (vs : List SV) : denL ν ρ (splice cs off vs) = splice (denL ν ρ cs) off (denL ν ρ vs) := by
  simp [splice, denL_append, denL_take, denL_drop, denL_length]

theorem splice_append {α : Type} (cs rest : List α) (off : Nat) (vs : List α) (h : off + vs.length ≤ cs.length) : splice (cs ++ rest) off vs = splice cs off vs ++ rest := by
  unfold splice
  rw [List.take_append_of_le_length (by omega), List.drop_append_of_le_length h]
  simp

theorem set_splice (l : List Int) (k : IntKind) (rest : List Value) (n : Nat) (x : Int) (h : n < l.length) :
    splice (l.map (Value.int k) ++ rest) n [Value.int k x] = (l.set n x).map (Value.int k) ++ rest := by
  rw [splice_append _ _ _ _ (by simp; omega)]
  congr 1
  unfold splice
  apply List.ext_getElem?
  intro j
  simp only [List.getElem?_append, List.getElem?_take, List.getElem?_drop, List.length_take, List.length_append, List.length_map, List.getElem?_map, List.getElem?_set, List.length_cons, List.length_nil]
  have hm : min n l.length = n := by omega
  rw [hm]
  by_cases h1 : j < n
  · have h2 : j < n + (0 + 1) := by omega
    have h5 : ¬ n = j := by omega
    have h6 : j < l.length := by omega
    simp [h1, h2, h5, h6]
  · by_cases h2 : j = n
    · subst h2
      simp [h]
    · have h3 : ¬ j < n + (0 + 1) := by omega
      have h4 : n + (0 + 1) + (j - (n + (0 + 1))) = j := by omega
      have h5 : ¬ n = j := by omega
      simp only [h3, if_false, h4, h5]

theorem storeX_run (h : HW B ν ρ hp w) {pc : PC} (hd : pcDen ν pc) {t : Nat} {p v : SV} {l : List (PC × Option Heap)} (hl : storeX P pc hp t p v = some l) :
    ∃ x ∈ l, pcDen ν x.1 ∧ ∀ hp', x.2 = some hp' → ∃ w', (Instr.storeAt t (p.den ν ρ) (v.den ν ρ)).run P w = .ok () w' ∧ HW B ν ρ hp' w' := by
  unfold storeX at hl
  split at hl
  · rename_i b off
    split at hl
    · rename_i cs ty ex hg
      split at hl
      · rename_i off
        split at hl
        · rename_i n hs
          split at hl
          · rename_i hc
            simp only [Bool.and_eq_true] at hc
            obtain ⟨⟨hn, hle⟩, hone⟩ := hc
            have hn := Nat.eq_of_beq_eq_true hn
            have hle := Nat.le_of_ble_eq_true hle
            cases hl
            refine ⟨_, by simp; rfl, pcDen_nil ν, fun hp' hv => ?_⟩
            cases hv
            obtain ⟨rest, hr, hex⟩ := h.row (hget_mem hg)
            have hst := run_storeCells_at P (ρ b) off ty (denL ν ρ v.cellsOf) 0 (denL ν ρ cs ++ rest).toArray w hr (by simp [denL_length]; omega) (fun x hx => by
              rw [denL_eq] at hx
              obtain ⟨y, hy, rfl⟩ := List.mem_map.1 hx
              exact one_den (List.all_eq_true.1 hone y hy))
            refine ⟨w.setRow (ρ b) (splice (denL ν ρ cs ++ rest) off (denL ν ρ v.cellsOf)).toArray, ?_, ?_⟩
            · have hsz : (v.den ν ρ).cells.size = n := by rw [cells_den]; simp [denL_length, hn]
              simp only [SV.den, SI.den, Instr.storeAt, Instr.sureAddr, storeVar, Sem.run_bind, Sem.run_pure, Result.andThen_ok, sizeT_run hs, Sem.run_ite, hsz, ne_eq, not_true_eq_false, if_false]
              rw [cells_den]
              simp only [Nat.add_zero] at hst
              simpa [splice] using hst
            · have hrow := setRow_heap w (ρ b) _ (splice (denL ν ρ cs ++ rest) off (denL ν ρ v.cellsOf)).toArray ty _ hr
              refine h.turn (by exact trivial) (hget_mem hg) (w' := w.setRow (ρ b) (splice (denL ν ρ cs ++ rest) off (denL ν ρ v.cellsOf)).toArray) rfl rfl rfl (by simp) (fun k hk => setRow_other w (ρ b) k _ hk) ?_
              rw [splice_append _ _ _ _ (by simp [denL_length]; omega)] at hrow ⊢
              cases ex
              · simp only [BlkDen]; exact ⟨⟨rest, by rw [splice_den]; exact hrow⟩, by simp⟩
              · simp only [BlkDen]; rw [splice_den]; rw [hex rfl] at hrow ⊢; exact ⟨by simpa using hrow, by simp⟩
          · cases hl
        · cases hl
      · cases hl
    · rename_i k l' c ty hg
      split at hl
      · rename_i j e hs
        split at hl
        · rename_i hk
          have hk := kBeq_eq hk
          subst hk
          cases hl
          obtain ⟨x, hx, h1, h2⟩ := ways_den (ν := ν) (cs := [SB.mkLe (.lit 0) off, SB.mkLt off (SI.mkLen l')]) (hset b (.row j (.mkSet l' off e) c ty) hp) hd
          refine ⟨x, hx, h1, fun hp' hv => ?_⟩
          obtain ⟨rfl, hc⟩ := h2 hp' hv
          have c1 := hc (SB.mkLe (.lit 0) off) (by simp)
          have c2 := hc (SB.mkLt off (SI.mkLen l')) (by simp)
          rw [SB.mkLe_den] at c1
          rw [SB.mkLt_den, SI.mkLen_den] at c2
          replace c1 : (0 : Int) ≤ off.den ν := of_decide_eq_true c1
          replace c2 := of_decide_eq_true c2
          obtain ⟨rest, hr, hcap⟩ := h.ints (hget_mem hg)
          have hlt : (off.den ν).toNat < (l'.den ν).length := by omega
          have hst := run_storeCells_at P (ρ b) (off.den ν).toNat ty [Value.int j (e.den ν)] 0 _ w hr (by simp; omega) (fun x hx => by simp at hx; subst hx; rfl)
          have hsp := set_splice (l'.den ν) j rest (off.den ν).toNat (e.den ν) hlt
          refine ⟨w.setRow (ρ b) (splice ((l'.den ν).map (Value.int j) ++ rest) (off.den ν).toNat [Value.int j (e.den ν)]).toArray, ?_, ?_⟩
          · simp only [SV.den, Instr.storeAt, Instr.sureAddr, storeVar, Sem.run_bind, Sem.run_pure, Result.andThen_ok, sizeT_run hs, Sem.run_ite, Value.cells, List.size_toArray, List.length_cons, List.length_nil, Nat.zero_add, ne_eq, not_true_eq_false, if_false]
            simp only [Nat.add_zero] at hst
            simpa [splice] using hst
          · have hrow := setRow_heap w (ρ b) _ (splice ((l'.den ν).map (Value.int j) ++ rest) (off.den ν).toNat [Value.int j (e.den ν)]).toArray ty _ hr
            refine h.turn (by exact trivial) (hget_mem hg) rfl rfl rfl (by simp) (fun k hk => setRow_other w (ρ b) k _ hk) ?_
            rw [hsp] at hrow ⊢
            simp only [BlkDen, SL.mkSet_den]
            exact ⟨⟨rest, hrow, by simpa using hcap.1, hcap.2⟩, by simp⟩
        · cases hl
      · cases hl
    · cases hl
  · cases hl
end
end Go.Sy
end

section
namespace Go.Sy
open Go

section
variable {P : Program} {G : Type} {ν : Env G} {ρ : Nat → Nat}

/-! ### build -/
theorem foldl_splice (off : Nat) : ∀ (l : List Value) (k : Nat) (cells : Array Value), off + k + l.length ≤ cells.size →
    (l.zipIdx k).foldl (fun cs (x : Value × Nat) => cs.setIfInBounds (off + x.2) x.1) cells = (splice cells.toList (off + k) l).toArray
  | [], k, cells, _ => by simp [splice]
  | v :: l, k, cells, h => by
    simp only [List.length_cons] at h
    simp only [List.zipIdx_cons, List.foldl_cons]
    rw [foldl_splice off l (k + 1) (cells.setIfInBounds (off + k) v) (by simp; omega)]
    congr 1
    unfold splice
    have hk : off + k < cells.toList.length := by simp; omega
    simp only [Array.toList_setIfInBounds, List.length_cons]
    apply List.ext_getElem?
    intro j
    simp only [List.getElem?_append, List.getElem?_take, List.getElem?_drop, List.getElem?_set, List.length_take, List.length_set, List.length_append, List.length_cons]
    have h1 : min (off + (k + 1)) cells.toList.length = off + (k + 1) := by omega
    have h2 : min (off + k) cells.toList.length = off + k := by omega
    rw [h1, h2]
    by_cases c1 : j < off + k
    · have : j < off + (k + 1) := by omega
      have h3 : j < off + (k + 1) + l.length := by omega
      have h4 : j < off + k + (l.length + 1) := by omega
      simp [c1, this, h3, h4]; omega
    · by_cases c2 : j = off + k
      · subst c2
        have h3 : off + k < off + (k + 1) := by omega
        have h4 : off + k < off + (k + 1) + l.length := by omega
        have h5 : off + k < cells.size := by simpa using hk
        simp [h3, h4, h5]
      · have h3 : ¬ j < off + (k + 1) := by omega
        by_cases c3 : j < off + (k + 1) + l.length
        · have h4 : j < off + k + (l.length + 1) := by omega
          have h5 : j - (off + k) = (j - (off + (k + 1))) + 1 := by omega
          simp [c1, h3, c3, h4, h5]
        · have h4 : ¬ j < off + k + (l.length + 1) := by omega
          have h5 : ¬ off + k = off + (k + 1) + l.length + (j - (off + (k + 1) + l.length)) := by omega
          have h6 : off + (k + 1) + l.length + (j - (off + (k + 1) + l.length)) = off + k + (l.length + 1) + (j - (off + k + (l.length + 1))) := by omega
          rw [if_neg c3, if_neg h4, if_neg (by omega), h6]

def denP (ν : Env G) (ρ : Nat → Nat) (l : List (Nat × SV)) : List (Nat × Value) := l.map fun x => (x.1, x.2.den ν ρ)

theorem fillX_den (place : Nat → Option (Nat × Nat)) : ∀ (parts : List (Nat × SV)) (cells cs : List SV), fillX place cells parts = some cs →
    Instr.fill place (denL ν ρ cells).toArray (denP ν ρ parts) = some (denL ν ρ cs).toArray
  | [], cells, cs, h => by simp only [fillX, Option.some.injEq] at h; subst h; simp [Instr.fill, denP]
  | (i, v) :: rest, cells, cs, h => by
    unfold fillX at h
    simp only [denP, List.map_cons, Instr.fill]
    split at h
    · cases h
    · rename_i off size hp
      split at h
      · rename_i hc
        simp only [Bool.and_eq_true] at hc
        have h1 := Nat.eq_of_beq_eq_true hc.1
        have h2 := Nat.le_of_ble_eq_true hc.2
        have hs : (v.den ν ρ).cells.size = v.cellsOf.length := by rw [cells_den]; simp [denL_length]
        have hcond : ((v.den ν ρ).cells.size ≠ size || decide (off + (v.den ν ρ).cells.size > (denL ν ρ cells).toArray.size)) = false := by
          simp [hs, h1, denL_length]; omega
        simp only [hp]
        rw [if_neg (by rw [hs]; simp only [List.size_toArray, denL_length, ne_eq, Bool.or_eq_true, decide_eq_true_eq, not_or]; omega)]
        have hf := foldl_splice off (denL ν ρ v.cellsOf) 0 (denL ν ρ cells).toArray (by simp [denL_length]; omega)
        have := fillX_den place rest _ cs h
        rw [splice_den] at this
        rw [cells_den]
        simp only [Nat.add_zero] at hf
        rw [← this]
        congr 1
        rw [← Array.foldl_toList]
        simp only [Array.toList_zipIdx]
        exact hf
      · cases h

theorem placesT_mapM : ∀ (fs : List Field) (ps : List (Nat × Nat)), placesT P fs = some ps → fs.mapM (fun f => (P.info? f.type).map fun i => (f.offset, i.size)) = some ps
  | [], ps, h => by simp only [placesT, Option.some.injEq] at h; subst h; rfl
  | f :: fs, ps, h => by
    unfold placesT at h
    split at h
    · rename_i n r hn hr
      cases h
      unfold sizeT at hn
      simp only [Option.map_eq_some_iff] at hn
      obtain ⟨i, hi, rfl⟩ := hn
      simp [List.mapM_cons, hi, placesT_mapM fs r hr]
    · cases h

theorem evalP_den {fr : List SV} {a : Act} (h : FR ν ρ fr a) : ∀ {ps : List (Nat × Operand)} {parts : List (Nat × SV)}, evalP fr ps = some parts → ps.map (fun x => (x.1, a.eval x.2)) = denP ν ρ parts
  | [], parts, hx => by simp only [evalP, Option.some.injEq] at hx; subst hx; rfl
  | (i, x) :: xs, parts, hx => by
    unfold evalP at hx
    split at hx
    · rename_i v vs hv hvs
      cases hx
      have := evalP_den h hvs
      simp only [denP] at this
      simp [denP, h.eval hv, this]
    · cases hx

theorem zeroT_info {t : Nat} {z : SV} (h : zeroT P t = some z) : ∃ i v, P.info? t = some i ∧ i.zero = some v ∧ v = z.den ν ρ := by
  unfold zeroT at h
  split at h
  · rename_i i hi
    simp only [Option.bind_eq_some_iff] at h
    obtain ⟨v, hv, hz⟩ := h
    exact ⟨i, v, hi, hv, (ofV_den ν ρ hz).symm⟩
  · cases h

theorem buildX_run {t : Nat} {parts : List (Nat × SV)} {v : SV} (h : buildX P t parts = some v) (w : World) :
    (Instr.build t (denP ν ρ parts).toArray).run P w = .ok (v.den ν ρ) w := by
  unfold buildX at h
  split at h
  · rename_i z fs hz hu
    split at h
    · rename_i ps hps
      simp only [Option.map_eq_some_iff] at h
      obtain ⟨cs, hcs, rfl⟩ := h
      obtain ⟨i, zv, hi, hzv, rfl⟩ := zeroT_info (ν := ν) (ρ := ρ) hz
      refine run_build w t _ _ ?_
      unfold Program.built
      simp only [hi, hu, hzv, placesT_mapM _ _ hps]
      rw [cells_den]
      have := fillX_den (ν := ν) (ρ := ρ) (fun i => ps[i]?) parts _ cs hcs
      simpa using this
    · cases h
  · rename_i z n e hz hu
    split at h
    · rename_i m hm
      simp only [Option.map_eq_some_iff] at h
      obtain ⟨cs, hcs, rfl⟩ := h
      obtain ⟨i, zv, hi, hzv, rfl⟩ := zeroT_info (ν := ν) (ρ := ρ) hz
      unfold sizeT at hm
      simp only [Option.map_eq_some_iff] at hm
      obtain ⟨ie, hie, rfl⟩ := hm
      refine run_build w t _ _ ?_
      unfold Program.built
      simp only [hi, hu, hzv, hie]
      rw [cells_den]
      have := fillX_den (ν := ν) (ρ := ρ) _ parts _ cs hcs
      simpa using this
    · cases h
  · cases h

theorem repL_get (l : List SV) : ∀ (n i : Nat), i < n * l.length → (repL n l)[i]? = l[i % l.length]?
  | 0, i, h => by simp at h
  | n + 1, i, h => by
    unfold repL
    by_cases hi : i < l.length
    · rw [List.getElem?_append_left hi, Nat.mod_eq_of_lt hi]
    · rw [List.getElem?_append_right (by omega), repL_get l n (i - l.length) (by rw [Nat.succ_mul] at h; omega)]
      rw [← Nat.mod_eq_sub_mod (by omega)]
theorem repL_length (l : List SV) : ∀ n, (repL n l).length = n * l.length
  | 0 => by simp [repL]
  | n + 1 => by simp [repL, repL_length l n, Nat.succ_mul]; omega

theorem List.getElem?_range_eq (n i : Nat) : (List.range n)[i]? = if i < n then some i else none := by
  by_cases h : i < n
  · simp [h]
  · rw [List.getElem?_eq_none (by simp; omega), if_neg h]
theorem range_rep (z : SV) (len n : Nat) (hn : z.cellsOf.length = n) (h1 : 1 ≤ n) :
    (Array.range (len * n)).map (fun i => (z.den ν ρ).cells[i % (z.den ν ρ).cells.size]!) = (denL ν ρ (repL len z.cellsOf)).toArray := by
  apply Array.ext'
  simp only [Array.toList_map, Array.toList_range]
  apply List.ext_getElem?
  intro i
  rw [List.getElem?_map, List.getElem?_range_eq]
  rw [cells_den, denL_get]
  simp only [List.size_toArray, denL_length, hn]
  by_cases hi : i < len * n
  · rw [repL_get _ _ _ (by rw [hn]; exact hi), hn]
    have hm : i % n < z.cellsOf.length := by rw [hn]; exact Nat.mod_lt _ (by omega)
    simp only [hi, if_true, Option.map_some, List.getElem?_eq_getElem hm]
    congr 1
    have hm2 : i % n < (denL ν ρ z.cellsOf).length := by rw [denL_length]; exact hm
    rw [getElem!_pos _ _ (by simpa using hm2)]
    have := denL_get (ν := ν) (ρ := ρ) z.cellsOf (i % n)
    rw [List.getElem?_eq_getElem hm2, List.getElem?_eq_getElem hm] at this
    simpa using this
  · have : ¬ i < (repL len z.cellsOf).length := by rw [repL_length, hn]; exact hi
    simp [hi, List.getElem?_eq_none (Nat.le_of_not_lt this)]

theorem buildSliceX_run {t len : Nat} {parts : List (Nat × SV)} {cs : List SV} {e : Nat} (h : buildSliceX P t len parts = some (cs, e)) (w : World) :
    (Instr.buildSlice t len (denP ν ρ parts).toArray).run P w = .ok (.slice (some ⟨w.heap.size, 0, none⟩) len len) (w.alloc (.cells (denL ν ρ cs).toArray e)) := by
  unfold buildSliceX at h
  split at h
  · rename_i e' hu
    split at h
    · rename_i n z hn hz
      split at h
      · rename_i hc
        simp only [Bool.and_eq_true] at hc
        have h1 := Nat.le_of_ble_eq_true hc.1.1
        have h2 := Nat.le_of_ble_eq_true hc.1.2
        have h3 := Nat.eq_of_beq_eq_true hc.2
        simp only [Option.map_eq_some_iff, Prod.mk.injEq] at h
        obtain ⟨cs', hcs, rfl, rfl⟩ := h
        have hf := fillX_den (ν := ν) (ρ := ρ) (fun i => some (i * n, n)) parts _ _ hcs
        have hr := range_rep (ν := ν) (ρ := ρ) z len n h3 h2
        have hbig : ¬ (len * n > 2 ^ 24) := by omega
        simp only [Instr.buildSlice, Sem.run_bind, run_underlying hu, Result.andThen_ok, sizeT_run hn, Sem.run_ite, hbig, if_false, Sem.run_pure]
        by_cases h0 : len * n = 0
        · have hnil : repL len z.cellsOf = [] := List.eq_nil_of_length_eq_zero (by rw [repL_length, h3]; exact h0)
          rw [hnil] at hf
          simp only [denL] at hf
          have hrg : Array.range 0 = #[] := rfl
          simp only [h0, if_true, hrg, Array.map_empty]
          simp [hf, newRow]
        · simp only [h0, if_false, Sem.run_bind, zeroT_run hz ν ρ, Result.andThen_ok, Sem.run_pure]
          rw [hr]
          simp [hf, newRow]
      · cases h
    · cases h
  · cases h
end
end Go.Sy
end

section
namespace Go.Sy
open Go

section
variable {P : Program} {G : Type} {ν : Env G} {ρ : Nat → Nat}

def binRun (P : Program) (op : BinOp) (t : TypeId) (xo yo : Operand) (x y : Value) (w : World) : Result Value :=
  (do eqGuard op t xo yo x y; binOp op t x y : Sem Value).run P w

theorem eqGuard_int (op : BinOp) (t : TypeId) (xo yo : Operand) (k : IntKind) (a : Int) (y : Value) (w : World) : (eqGuard op t xo yo (.int k a) y).run P w = .ok () w := by
  unfold eqGuard
  cases op <;> simp
theorem eqGuard_bool (op : BinOp) (t : TypeId) (xo yo : Operand) (a : Bool) (y : Value) (w : World) : (eqGuard op t xo yo (.bool a) y).run P w = .ok () w := by
  unfold eqGuard
  cases op <;> simp
theorem eqGuard_ptr (op : BinOp) (t : TypeId) (xo yo : Operand) (a : Option Addr) (y : Value) (w : World) : (eqGuard op t xo yo (.pointer a) y).run P w = .ok () w := by
  unfold eqGuard
  cases op <;> simp
theorem eqGuard_func (op : BinOp) (t : TypeId) (xo yo : Operand) (f : Fn) (a b : Array Value) (y : Value) (w : World) : (eqGuard op t xo yo (.func f a b) y).run P w = .ok () w := by
  unfold eqGuard
  cases op <;> simp
theorem eqGuard_nilFunc (op : BinOp) (t : TypeId) (xo yo : Operand) (y : Value) (w : World) : (eqGuard op t xo yo .nilFunc y).run P w = .ok () w := by
  unfold eqGuard
  cases op <;> simp
theorem eqGuard_slice (op : BinOp) (t : TypeId) (xo yo : Operand) (a : Option Addr) (n c : Nat) (y : Value) (w : World) : (eqGuard op t xo yo (.slice a n c) y).run P w = .ok () w := by
  unfold eqGuard
  cases op <;> simp

theorem equal_bool {t : TypeId} (hu : P.underlying t = some .bool) (a b : Bool) (w : World) : (Op.equal t (.bool a) (.bool b)).run P w = .ok (a == b) w := by
  show (Op.equalIn (9999 + 1) t (.bool a) (.bool b)).run P w = _
  rw [Op.equalIn]; simp [run_underlying hu]
theorem equal_ptr_nil {t e : TypeId} (hu : P.underlying t = some (.pointer e)) (a : Option Addr) (w : World) : (Op.equal t (.pointer a) (.pointer none)).run P w = .ok a.isNone w := by
  show (Op.equalIn (9999 + 1) t (.pointer a) (.pointer none)).run P w = _
  rw [Op.equalIn]; cases a <;> simp [run_underlying hu]
theorem equal_nil_ptr {t e : TypeId} (hu : P.underlying t = some (.pointer e)) (a : Option Addr) (w : World) : (Op.equal t (.pointer none) (.pointer a)).run P w = .ok a.isNone w := by
  show (Op.equalIn (9999 + 1) t (.pointer none) (.pointer a)).run P w = _
  rw [Op.equalIn]; cases a <;> simp [run_underlying hu]
theorem equal_fn_nil {t : TypeId} {p r : Array TypeId} {v : Bool} (hu : P.underlying t = some (.func p r v)) (f : Fn) (a b : Array Value) (w : World) : (Op.equal t (.func f a b) .nilFunc).run P w = .ok false w := by
  show (Op.equalIn (9999 + 1) t (.func f a b) .nilFunc).run P w = _
  rw [Op.equalIn]; simp [run_underlying hu]
theorem equal_nil_fn {t : TypeId} {p r : Array TypeId} {v : Bool} (hu : P.underlying t = some (.func p r v)) (f : Fn) (a b : Array Value) (w : World) : (Op.equal t .nilFunc (.func f a b)).run P w = .ok false w := by
  show (Op.equalIn (9999 + 1) t .nilFunc (.func f a b)).run P w = _
  rw [Op.equalIn]; simp [run_underlying hu]
theorem equal_nilFn {t : TypeId} {p r : Array TypeId} {v : Bool} (hu : P.underlying t = some (.func p r v)) (w : World) : (Op.equal t .nilFunc .nilFunc).run P w = .ok true w := by
  show (Op.equalIn (9999 + 1) t .nilFunc .nilFunc).run P w = _
  rw [Op.equalIn]; simp [run_underlying hu]
theorem equal_sl_nil {t e : TypeId} (hu : P.underlying t = some (.slice e)) (a : Option Addr) (n c : Nat) (w : World) : (Op.equal t (.slice a n c) (.slice none 0 0)).run P w = .ok a.isNone w := by
  show (Op.equalIn (9999 + 1) t (.slice a n c) (.slice none 0 0)).run P w = _
  rw [Op.equalIn]; cases a <;> simp [run_underlying hu]

theorem eqFields_flat (d : Nat) {X Y : List SV} (w : World) : ∀ (fs : List Field) (n : Nat) (e : SB), flatF P n fs = true → fs.length + n = X.length → fs.length + n = Y.length → eqL (X.drop n) (Y.drop n) = some e →
    (Op.eqFields (d + 1) (denL ν ρ X).toArray (denL ν ρ Y).toArray fs).run P w = .ok (e.den ν) w
  | [], n, e, _, hx, hy, he => by
    simp only [List.length_nil, Nat.zero_add] at hx hy
    rw [List.drop_of_length_le (by omega), List.drop_of_length_le (by omega)] at he
    simp only [eqL, Option.some.injEq] at he
    subst he
    simp [Op.eqFields, SB.den]
  | f :: fs, n, e, hf, hx, hy, he => by
    simp only [flatF, Bool.and_eq_true] at hf
    obtain ⟨⟨⟨h1, h2⟩, h3⟩, h4⟩ := hf
    have h1 := Nat.eq_of_beq_eq_true h1
    simp only [List.length_cons] at hx hy
    have lx : n < X.length := by omega
    have ly : n < Y.length := by omega
    rw [List.drop_eq_getElem_cons lx, List.drop_eq_getElem_cons ly] at he
    cases hu : P.underlying f.type with
    | none => rw [hu] at h2; cases h2
    | some td =>
      rw [hu] at h2
      cases td <;> simp at h2
      rename_i kk
      have hxi : X[n]? = some X[n] := List.getElem?_eq_getElem lx
      have hyi : Y[n]? = some Y[n] := List.getElem?_eq_getElem ly
      unfold eqL at he
      split at he
      · rename_i h _; cases h
      · rename_i k a r j b s hxa hyb
        simp only [List.cons.injEq] at hxa hyb
        obtain ⟨hxa, hr⟩ := hxa
        obtain ⟨hyb, hs⟩ := hyb
        split at he
        · rename_i hk
          have hk := kBeq_eq hk
          subst hk
          simp only [Option.map_eq_some_iff] at he
          obtain ⟨e', he', rfl⟩ := he
          subst hr hs
          have ih := eqFields_flat d w fs (n + 1) e' h4 (by omega) (by omega) he'
          have hagg : (isAgg f.type).run P w = .ok false w := by simp [isAgg, run_underlying hu]
          have p1 : (part f.type (denL ν ρ X).toArray f.offset).run P w = .ok (.int k (a.den ν)) w := by
            simp [part, hagg, h1, denL_get, hxi, hxa, SV.den]
          have p2 : (part f.type (denL ν ρ Y).toArray f.offset).run P w = .ok (.int k (b.den ν)) w := by
            simp [part, hagg, h1, denL_get, hyi, hyb, SV.den]
          have hnm : f.name ≠ "_" := by simpa using h3
          simp only [Op.eqFields, hnm, ne_eq, not_false_eq_true, if_true, Sem.run_bind, p1, p2, Result.andThen_ok, run_equalIn_int w d f.type k kk _ _ hu, Sem.run_ite, ih, Sem.run_pure]
          rw [SB.mkAnd_den, SB.mkEq_den]
          cases hq : (a.den ν == b.den ν) <;> simp
        · cases he
      · cases he

theorem shl_den (k : IntKind) (a : Int) (n : Nat) : k.wrap (a * ((2 ^ Nat.min n k.bits : Nat) : Int)) = k.wrap (a * 2 ^ (min ((n : Int)).toNat k.bits)) := by
  simp [Nat.min_def, Int.natCast_pow]
theorem shr_den (k : IntKind) (a : Int) (n : Nat) : a.fdiv ((2 ^ Nat.min n k.bits : Nat) : Int) = a.fdiv (2 ^ (min ((n : Int)).toNat k.bits)) := by
  simp [Nat.min_def, Int.natCast_pow]

theorem binX_run {pc : PC} {op : BinOp} {t : Nat} {x y : SV} {l : List (PC × Option SV)} (hd : pcDen ν pc) (h : binX P pc op t x y = some l) :
    ∃ r ∈ l, pcDen ν r.1 ∧ ∀ v, r.2 = some v → ∀ xo yo w, binRun P op t xo yo (x.den ν ρ) (y.den ν ρ) w = .ok (v.den ν ρ) w := by
  have one : ∀ (v : SV), l = [([], some v)] → (∀ xo yo w, binRun P op t xo yo (x.den ν ρ) (y.den ν ρ) w = .ok (v.den ν ρ) w) →
      ∃ r ∈ l, pcDen ν r.1 ∧ ∀ v, r.2 = some v → ∀ xo yo w, binRun P op t xo yo (x.den ν ρ) (y.den ν ρ) w = .ok (v.den ν ρ) w := fun v hl hr =>
    ⟨([], some v), by simp [hl], pcDen_nil ν, fun u hu => by cases hu; exact hr⟩
  unfold binX at h
  cases x with
  | int k a =>
    cases y with
    | int j b =>
      simp only at h
      split at h
      · -- shl
        split at h
        · rename_i n
          refine one _ (Option.some.inj h).symm fun xo yo w => ?_
          simp only [binRun, SV.den, Sem.run_bind, eqGuard_int, Result.andThen_ok, binOp, Op.shift, SI.den, SI.mkWrap_den, SI.mkMul_den]
          have hn : ¬ ((Int.ofNat n) < 0) := Int.not_lt.mpr (Int.natCast_nonneg n)
          rw [if_neg hn]
          simp
        · cases h
      · -- shr
        split at h
        · rename_i n
          refine one _ (Option.some.inj h).symm fun xo yo w => ?_
          simp only [binRun, SV.den, Sem.run_bind, eqGuard_int, Result.andThen_ok, binOp, Op.shift, SI.den, SI.mkFdiv_den]
          have hn : ¬ ((Int.ofNat n) < 0) := Int.not_lt.mpr (Int.natCast_nonneg n)
          rw [if_neg hn]
          simp
        · cases h
      · rename_i hsl hsr
        split at h
        · rename_i hk
          have hk := kBeq_eq hk
          subst hk
          have ez : (SB.eq b (.lit 0)).den ν = (b.den ν == 0) := rfl
          split at h
          all_goals try (refine one _ (Option.some.inj h).symm fun xo yo w => ?_; simp [binRun, SV.den, eqGuard_int, binOp, Op.intArith, Op.intBits, Op.intCmp, SI.mkWrap_den, SI.mkAdd_den, SI.mkSub_den, SI.mkMul_den, SI.mkBits_den, SB.mkEq_den, SB.mkNot_den, SB.mkLt_den, SB.mkLe_den, bitsDen]; done)
          all_goals try (refine one _ (Option.some.inj h).symm fun xo yo w => ?_; simp [binRun, SV.den, eqGuard_int, binOp, Op.intArith, Op.intBits, Op.intCmp, SI.mkWrap_den, SI.mkAdd_den, SI.mkSub_den, SI.mkMul_den, SI.mkBits_den, SB.mkEq_den, SB.mkNot_den, SB.mkLt_den, SB.mkLe_den, bitsDen, bne]; done)
          · -- quo
            split at h
            · rename_i hq
              have hb : ¬ (b.den ν = 0) := by
                have := SB.known_den hd hq
                rw [SB.mkEq_den] at this
                simpa [SI.den] using this
              refine one _ (Option.some.inj h).symm fun xo yo w => ?_
              simp [binRun, SV.den, eqGuard_int, binOp, Op.intDiv, hb, SI.mkWrap_den, SI.mkTdiv_den]
            · cases h
              by_cases hb : b.den ν = 0
              · exact ⟨_, by simp; exact .inr rfl, pcDen_one (show (SB.eq b (.lit 0)).den ν = true by rw [ez]; simp [hb]), fun v hv => by cases hv⟩
              · refine ⟨_, by simp; exact .inl rfl, pcDen_one (show (SB.eq b (.lit 0)).den ν = false by rw [ez]; simp [hb]), fun v hv => ?_⟩
                cases hv
                intro xo yo w
                simp [binRun, SV.den, eqGuard_int, binOp, Op.intDiv, hb, SI.mkWrap_den, SI.mkTdiv_den]
          · -- rem
            split at h
            · rename_i hq
              have hb : ¬ (b.den ν = 0) := by
                have := SB.known_den hd hq
                rw [SB.mkEq_den] at this
                simpa [SI.den] using this
              refine one _ (Option.some.inj h).symm fun xo yo w => ?_
              simp [binRun, SV.den, eqGuard_int, binOp, Op.intDiv, hb, SI.mkTmod_den]
            · cases h
              by_cases hb : b.den ν = 0
              · exact ⟨_, by simp; exact .inr rfl, pcDen_one (show (SB.eq b (.lit 0)).den ν = true by rw [ez]; simp [hb]), fun v hv => by cases hv⟩
              · refine ⟨_, by simp; exact .inl rfl, pcDen_one (show (SB.eq b (.lit 0)).den ν = false by rw [ez]; simp [hb]), fun v hv => ?_⟩
                cases hv
                intro xo yo w
                simp [binRun, SV.den, eqGuard_int, binOp, Op.intDiv, hb, SI.mkTmod_den]
          · cases h
        · cases h
    | _ => simp at h
  | bool a =>
    cases y with
    | bool b =>
      simp only at h
      split at h
      · rename_i hu
        refine one _ (Option.some.inj h).symm fun xo yo w => ?_
        simp [SB.mkSame_den, SB.mkNot_den, binRun, SV.den, eqGuard_bool, binOp, equal_bool hu, SB.den]
      · rename_i hu
        refine one _ (Option.some.inj h).symm fun xo yo w => ?_
        simp [SB.mkSame_den, SB.mkNot_den, binRun, SV.den, eqGuard_bool, binOp, equal_bool hu, SB.den]
      · cases h
    | _ => simp at h
  | ptr b off =>
    cases y with
    | nilPtr =>
      simp only at h
      split at h
      · rename_i hu
        refine one _ (Option.some.inj h).symm fun xo yo w => ?_
        first | (simp [binRun, SV.den, eqGuard_ptr, binOp, equal_ptr_nil hu, SB.den]; done) | (simp [binRun, SV.den, eqGuard_ptr, binOp, equal_nil_ptr hu, SB.den]; done)
      · rename_i hu
        refine one _ (Option.some.inj h).symm fun xo yo w => ?_
        first | (simp [binRun, SV.den, eqGuard_ptr, binOp, equal_ptr_nil hu, SB.den]; done) | (simp [binRun, SV.den, eqGuard_ptr, binOp, equal_nil_ptr hu, SB.den]; done)
      · cases h
    | _ => simp at h
  | nilPtr =>
    cases y with
    | nilPtr =>
      simp only at h
      split at h
      · rename_i hu
        refine one _ (Option.some.inj h).symm fun xo yo w => ?_
        first | (simp [binRun, SV.den, eqGuard_ptr, binOp, equal_ptr_nil hu, SB.den]; done) | (simp [binRun, SV.den, eqGuard_ptr, binOp, equal_nil_ptr hu, SB.den]; done)
      · rename_i hu
        refine one _ (Option.some.inj h).symm fun xo yo w => ?_
        first | (simp [binRun, SV.den, eqGuard_ptr, binOp, equal_ptr_nil hu, SB.den]; done) | (simp [binRun, SV.den, eqGuard_ptr, binOp, equal_nil_ptr hu, SB.den]; done)
      · cases h
    | ptr b off =>
      simp only at h
      split at h
      · rename_i hu
        refine one _ (Option.some.inj h).symm fun xo yo w => ?_
        first | (simp [binRun, SV.den, eqGuard_ptr, binOp, equal_ptr_nil hu, SB.den]; done) | (simp [binRun, SV.den, eqGuard_ptr, binOp, equal_nil_ptr hu, SB.den]; done)
      · rename_i hu
        refine one _ (Option.some.inj h).symm fun xo yo w => ?_
        first | (simp [binRun, SV.den, eqGuard_ptr, binOp, equal_ptr_nil hu, SB.den]; done) | (simp [binRun, SV.den, eqGuard_ptr, binOp, equal_nil_ptr hu, SB.den]; done)
      · cases h
    | _ => simp at h
  | fn f a b =>
    cases y with
    | nilFunc =>
      simp only at h
      split at h
      · rename_i hu
        refine one _ (Option.some.inj h).symm fun xo yo w => ?_
        simp [binRun, SV.den, eqGuard_func, binOp, equal_fn_nil hu, SB.den]
      · rename_i hu
        refine one _ (Option.some.inj h).symm fun xo yo w => ?_
        simp [binRun, SV.den, eqGuard_func, binOp, equal_fn_nil hu, SB.den]
      · cases h
    | _ => simp at h
  | nilFunc =>
    cases y with
    | nilFunc =>
      simp only at h
      split at h
      · rename_i hu
        refine one _ (Option.some.inj h).symm fun xo yo w => ?_
        first | (simp [binRun, SV.den, eqGuard_nilFunc, binOp, equal_nil_fn hu, SB.den]; done) | (simp [binRun, SV.den, eqGuard_nilFunc, binOp, equal_nilFn hu, SB.den]; done)
      · rename_i hu
        refine one _ (Option.some.inj h).symm fun xo yo w => ?_
        first | (simp [binRun, SV.den, eqGuard_nilFunc, binOp, equal_nil_fn hu, SB.den]; done) | (simp [binRun, SV.den, eqGuard_nilFunc, binOp, equal_nilFn hu, SB.den]; done)
      · cases h
    | fn f a b =>
      simp only at h
      split at h
      · rename_i hu
        refine one _ (Option.some.inj h).symm fun xo yo w => ?_
        first | (simp [binRun, SV.den, eqGuard_nilFunc, binOp, equal_nil_fn hu, SB.den]; done) | (simp [binRun, SV.den, eqGuard_nilFunc, binOp, equal_nilFn hu, SB.den]; done)
      · rename_i hu
        refine one _ (Option.some.inj h).symm fun xo yo w => ?_
        first | (simp [binRun, SV.den, eqGuard_nilFunc, binOp, equal_nil_fn hu, SB.den]; done) | (simp [binRun, SV.den, eqGuard_nilFunc, binOp, equal_nilFn hu, SB.den]; done)
      · cases h
    | _ => simp at h
  | agg xs =>
    cases y with
    | agg ys =>
      simp only at h
      split at h
      · rename_i fs hu
        split at h
        · rename_i hc
          simp only [Bool.and_eq_true, Bool.not_eq_true'] at hc
          obtain ⟨⟨⟨⟨c1, c2⟩, c3⟩, c4⟩, c5⟩ := hc
          have c2 := Nat.eq_of_beq_eq_true c2
          have c3 := Nat.eq_of_beq_eq_true c3
          have hfo : P.fieldsOf t = fs := by simp [Program.fieldsOf, hu]
          have key : ∀ e, eqL xs ys = some e → ∀ w, (Op.equalIn 10000 t (.agg (denL ν ρ xs).toArray) (.agg (denL ν ρ ys).toArray)).run P w = .ok (e.den ν) w := by
            intro e he w
            show (Op.equalIn (9998 + 1 + 1) t _ _).run P w = _
            rw [run_equalIn_struct w (9998 + 1) t _ _ (by rw [hfo]; exact hu) c4, hfo]
            exact eqFields_flat 9998 w fs.toList 0 e c1 (by simpa using c2) (by simpa using c3) (by simpa using he)
          split at h
          · rename_i e he
            refine one _ (Option.some.inj h).symm fun xo yo w => ?_
            simp only [binRun, SV.den, Sem.run_bind, run_eqGuard_agg w _ t xo yo _ _ c5, Result.andThen_ok, run_eql_struct, key e he w]
          · rename_i e he
            refine one _ (Option.some.inj h).symm fun xo yo w => ?_
            simp only [binRun, SV.den, Sem.run_bind, run_eqGuard_agg w _ t xo yo _ _ c5, Result.andThen_ok, run_neq_struct, key e he w, SB.mkNot_den]
          · cases h
        · cases h
      · cases h
    | _ => simp at h
  | nilSl =>
    cases y with
    | nilSl =>
      simp only at h
      split at h
      · rename_i hu
        refine one _ (Option.some.inj h).symm fun xo yo w => ?_
        simp [binRun, SV.den, eqGuard_slice, binOp, equal_sl_nil hu, SB.den]
      · rename_i hu
        refine one _ (Option.some.inj h).symm fun xo yo w => ?_
        simp [binRun, SV.den, eqGuard_slice, binOp, equal_sl_nil hu, SB.den]
      · cases h
    | _ => simp at h
  | sl b o n c =>
    cases y with
    | nilSl =>
      simp only at h
      split at h
      · rename_i hu
        refine one _ (Option.some.inj h).symm fun xo yo w => ?_
        simp [binRun, SV.den, eqGuard_slice, binOp, equal_sl_nil hu, SB.den]
      · rename_i hu
        refine one _ (Option.some.inj h).symm fun xo yo w => ?_
        simp [binRun, SV.den, eqGuard_slice, binOp, equal_sl_nil hu, SB.den]
      · cases h
    | _ => simp at h
  | emp i =>
    cases y with
    | nilSl =>
      simp only at h
      split at h
      · rename_i hu
        refine one _ (Option.some.inj h).symm fun xo yo w => ?_
        simp [binRun, SV.den, eqGuard_slice, binOp, equal_sl_nil hu, SB.den]
      · rename_i hu
        refine one _ (Option.some.inj h).symm fun xo yo w => ?_
        simp [binRun, SV.den, eqGuard_slice, binOp, equal_sl_nil hu, SB.den]
      · cases h
    | _ => simp at h
  | _ => cases y <;> simp at h
end
end Go.Sy
end

section
namespace Go.Sy
open Go

section
variable {P : Program} {G : Type} {ν : Env G} {ρ : Nat → Nat}

theorem unX_run {op : UnOp} {x v : SV} (h : unX op x = some v) (w : World) : (Op.unary op (x.den ν ρ)).run P w = .ok (v.den ν ρ) w := by
  unfold unX at h
  split at h
  · split at h
    · cases h; simp [SV.den, Op.unary, Op.intArith, SI.mkWrap_den, SI.mkSub_den, SI.den]
    · cases h; simp [SV.den, Op.unary, Op.intBits, SI.mkBits_den, SI.den, bitsDen]
    · cases h
  · split at h
    · cases h; simp [SV.den, Op.unary, SB.mkNot_den]
    · cases h
  · cases h

theorem run_sliceBound (k : IntKind) (n y : Nat) (c : BoundsCode) (h : n ≤ y) (w : World) : (Instr.sliceBound (.int k (n : Int)) y c).run P w = .ok n w := by
  have : (0 : Int) ≤ n ∧ (n : Int) ≤ y := ⟨by omega, by omega⟩
  simp [Instr.sliceBound, asIntOf, this, h]

/-- the three bounds, all literal. -/
theorem run_bounds (len cap m hh l : Nat) (lo hi mx : Option Value)
    (hm : (mx = none ∧ m = cap) ∨ ∃ k, mx = some (.int k (m : Int))) (hh' : (hi = none ∧ mx = none ∧ hh = len) ∨ ∃ k, hi = some (.int k (hh : Int))) (hl : (lo = none ∧ l = 0) ∨ ∃ k, lo = some (.int k (l : Int)))
    (h1 : m ≤ cap) (h2 : hh ≤ m) (h3 : l ≤ hh) (w : World) : (Instr.sliceBounds true len cap lo hi mx).run P w = .ok (l, hh, m) w := by
  unfold Instr.sliceBounds
  rcases hm with ⟨rfl, rfl⟩ | ⟨k, rfl⟩ <;> rcases hh' with ⟨rfl, hx, rfl⟩ | ⟨k', rfl⟩ <;> rcases hl with ⟨rfl, rfl⟩ | ⟨k'', rfl⟩ <;>
    first
      | (cases hx; done)
      | simp [run_sliceBound, h1, h2, h3]

theorem litX_den {d k : Nat} {x : Option SV} (h : litX d x = some k) : (x = none ∧ k = d) ∨ ∃ j, (x.map (·.den ν ρ)) = some (.int j (k : Int)) := by
  unfold litX at h
  split at h
  · cases h; exact .inl ⟨rfl, rfl⟩
  · rename_i j n; cases h; exact .inr ⟨j, by simp [SV.den, SI.den]⟩
  · cases h

theorem sliceX_run {t : Nat} {x v : SV} {lo hi mx : Option SV} (h : sliceX P t x lo hi mx = some v) (w : World) :
    (Instr.sliceAt t (x.den ν ρ) (lo.map (·.den ν ρ)) (hi.map (·.den ν ρ)) (mx.map (·.den ν ρ))).run P w = .ok (v.den ν ρ) w := by
  unfold sliceX at h
  split at h
  · rename_i e hu
    split at h
    · rename_i n hn
      split at h
      · cases h
      · rename_i hb
        have key : ∀ (len cap m hh l : Nat), litX cap mx = some m → litX len hi = some hh → litX 0 lo = some l → m ≤ cap → hh ≤ m → l ≤ hh →
            (Instr.sliceBounds true len cap (lo.map (·.den ν ρ)) (hi.map (·.den ν ρ)) (mx.map (·.den ν ρ))).run P w = .ok (l, hh, m) w := by
          intro len cap m hh l hm hhh hl c1 c2 c3
          have g1 := litX_den (ν := ν) (ρ := ρ) hm
          have g2 := litX_den (ν := ν) (ρ := ρ) hhh
          have g3 := litX_den (ν := ν) (ρ := ρ) hl
          refine run_bounds (P := P) len cap m hh l _ _ _ (g1.imp (fun h => by simp [h.1, h.2]) id) ?_ (g3.imp (fun h => by simp [h.1, h.2]) id) c1 c2 c3 w
          rcases g2 with ⟨h1, h2⟩ | h
          · refine .inl ⟨by simp [h1], ?_, h2⟩
            rw [h1] at hb
            cases mx <;> simp_all
          · exact .inr h
        split at h
        · -- nil
          split at h
          · rename_i m hh l hm hhh hl
            split at h
            · rename_i hc
              simp only [Bool.and_eq_true] at hc
              have c1 := Nat.eq_of_beq_eq_true hc.1.1
              have c2 := Nat.eq_of_beq_eq_true hc.1.2
              have c3 := Nat.eq_of_beq_eq_true hc.2
              subst c1 c2 c3
              cases h
              have := key 0 0 0 0 0 hm hhh hl (Nat.le_refl _) (Nat.le_refl _) (Nat.le_refl _)
              simp [Instr.sliceAt, Instr.slice, SV.den, run_underlying hu, this, sizeT_run hn]
            · cases h
          · cases h
        · -- literal
          rename_i b off len cap
          split at h
          · rename_i m hh l hm hhh hl
            split at h
            · rename_i hc
              simp only [Bool.and_eq_true] at hc
              have c1 := Nat.le_of_ble_eq_true hc.1.1
              have c2 := Nat.le_of_ble_eq_true hc.1.2
              have c3 := Nat.le_of_ble_eq_true hc.2
              cases h
              have := key len cap m hh l hm hhh hl c1 c2 c3
              have e1 : (Int.ofNat len).toNat = len := rfl
              have e2 : (Int.ofNat cap).toNat = cap := rfl
              have e3 : (Int.ofNat off).toNat = off := rfl
              simp only [Instr.sliceAt, Instr.slice, SV.den, SI.den, Sem.run_bind, run_underlying hu, Result.andThen_ok, e1, e2, e3, this, sizeT_run hn, Sem.run_pure]
              by_cases hml : m = l
              · subst hml; simp
              · have : Nat.beq m l = false := by
                  cases hq : Nat.beq m l
                  · rfl
                  · exact absurd (Nat.eq_of_beq_eq_true hq) hml
                simp [hml, this, add_none]
            · cases h
          · cases h
        · cases h
    · cases h
  · cases h

theorem lenX_den {x : SV} {n : Nat} (h : lenX x = some n) : (x = .nilSl ∧ n = 0) ∨ ∃ b off cap, x = .sl b off (.lit (.ofNat n)) cap := by
  unfold lenX at h
  split at h
  · cases h; exact .inl ⟨rfl, rfl⟩
  · rename_i b off m cap; cases h; exact .inr ⟨b, off, cap, rfl⟩
  · cases h

variable {B : Base} {hp : Heap} {w : World}
theorem cellsX_den (h : HW B ν ρ hp w) {k : Nat} {b : Nat} {off len cap : SI} {cs : List SV} (hc : cellsX hp k (.sl b off len cap) = some cs) :
    cs.length = k ∧ ∀ j u, (denL ν ρ cs)[j]? = some u → w.cell? ((⟨ρ b, (off.den ν).toNat, none⟩ : Addr).add j) = some u := by
  unfold cellsX at hc
  split at hc
  · cases ‹SV.sl b off len cap = SV.nilSl›
  · rename_i b' off' l' c' heq
    cases heq
    split at hc
    · rename_i cells ty ex hg
      split at hc
      · rename_i hle
        have hle' := Nat.le_of_ble_eq_true hle
        cases hc
        obtain ⟨rest, hr, _⟩ := h.row (hget_mem hg)
        refine ⟨by simp; omega, fun j u hj => ?_⟩
        rw [add_none, cell_at hr]
        rw [denL_take, denL_drop, List.getElem?_take] at hj
        split at hj
        · rw [List.getElem?_drop] at hj
          rw [List.getElem?_append_left]
          · exact hj
          · exact (List.getElem?_eq_some_iff.1 hj).1
        · cases hj
      · cases hc
    · cases hc
  · cases hc


theorem arr_app (l : List Value) (A : Array Value) : l.toArray ++ A = (l ++ A.toList).toArray := by
  apply Array.ext'; simp

theorem HW.grown (h : HW B ν ρ hp w) {nm e c : Nat} {cs : List SV} {rest : List Value} (hav' : hav nm (nm + 1) hp = true) (hcs : avL nm (nm + 1) cs = true) :
    HW B (ν.updI nm c) (upd ρ nm w.heap.size) (hadd nm (.cells cs e false) hp) (w.drew.alloc (.cells (denL ν ρ cs ++ rest).toArray e)) := by
  have h' := h.drew
  have hag : Agree nm (nm + 1) ν (ν.updI nm c) ρ (upd ρ nm w.drew.heap.size) := agree_updI nm w.heap.size c
  refine h'.new (ν' := ν.updI nm c) (n := nm) (b := .cells cs e false) (o := .cells (denL ν ρ cs ++ rest).toArray e) hag hav' ?_
  simp only [BlkDen]
  refine ⟨⟨rest, ?_⟩, by simp [upd]⟩
  rw [show upd ρ nm w.drew.heap.size nm = w.drew.heap.size by simp [upd], denL_agree hag cs hcs]
  exact heap_alloc_new w.drew _

theorem appendX_run (h : HW B ν ρ hp w) {nm t : Nat} {s x v : SV} {hp' : Heap} (hav' : hav nm (nm + 1) hp = true) (ha : appendX P nm hp t s x = some (v, hp')) (ty : TypeId) :
    ∃ ν' ρ' w', Agree nm (nm + 1) ν ν' ρ ρ' ∧ (Builtin.append_ #[t, t] ty #[s.den ν ρ, x.den ν ρ]).run P w = .ok (v.den ν' ρ') w' ∧ HW B ν' ρ' hp' w' := by
  unfold appendX at ha
  split at ha
  · rename_i e hu
    split at ha
    · rename_i n z ls lx inf hn hz hls hlx hinf
      obtain ⟨i, zv, hi, hzv, hzd⟩ := zeroT_info (ν := ν) (ρ := ρ) hz
      have hii : inf = i := Option.some.inj (hinf.symm.trans hi)
      subst hii
      have hsz : inf.size = n := by unfold sizeT at hn; rw [hi] at hn; simpa using hn
      have key : ∀ cap, ((s = .nilSl ∧ cap = 0) ∨ ∃ b off len, s = .sl b off len (.lit (.ofNat cap))) → appendX.grow nm hp s x e n z ls lx cap inf.bytes = some (v, hp') →
          ∃ ν' ρ' w', Agree nm (nm + 1) ν ν' ρ ρ' ∧ (Builtin.append_ #[t, t] ty #[s.den ν ρ, x.den ν ρ]).run P w = .ok (v.den ν' ρ') w' ∧ HW B ν' ρ' hp' w' := by
        intro cap hs hg
        unfold appendX.grow at hg
        split at hg
        · -- nothing
          rename_i hc
          simp only [Bool.and_eq_true] at hc
          have c1 := Nat.eq_of_beq_eq_true hc.1
          have c2 := Nat.le_of_ble_eq_true hc.2
          cases hg
          refine ⟨ν, ρ, w, Agree.refl _ _ _ _, ?_, h⟩
          subst c1
          have hx : ∃ a c, x.den ν ρ = .slice a 0 c := by
            rcases lenX_den hlx with ⟨rfl, _⟩ | ⟨b, off, c, rfl⟩
            · exact ⟨none, 0, rfl⟩
            · exact ⟨_, _, rfl⟩
          obtain ⟨a, c, hx⟩ := hx
          rw [hx]
          have hf : ∀ (a : Option Addr), (Builtin.firstCells inf.size 0 (.slice a 0 c)).run P w = .ok #[] w := by
            intro a; cases a <;> simp [Builtin.firstCells, loadCells, loadCellsFrom]
          rcases hs with ⟨rfl, rfl⟩ | ⟨b, off, len, rfl⟩
          · simp [SV.den, Builtin.append_, run_underlying hu, sizeOf, typeInfo, hi, Builtin.lenOf, hf]
          · rcases lenX_den hls with ⟨h0, _⟩ | ⟨b', off', c', h0⟩
            · cases h0
            · cases h0
              have : ls ≤ cap := c2
              simp [SV.den, SI.den, Builtin.append_, run_underlying hu, sizeOf, typeInfo, hi, Builtin.lenOf, hf, this, storeCells]
        · split at hg
          · cases hg
          · rename_i hroom
            split at hg
            · rename_i hc
              simp only [Bool.and_eq_true] at hc
              obtain ⟨⟨⟨⟨⟨⟨d1, d2⟩, d3⟩, d4⟩, d5⟩, d6⟩, d7⟩ := hc
              have d1 := Nat.le_of_ble_eq_true d1
              have d2 := Nat.le_of_ble_eq_true d2
              have d3 := Nat.le_of_ble_eq_true d3
              have d4 := Nat.le_of_ble_eq_true d4
              have hlt : cap < ls + lx := by
                rcases Nat.lt_or_ge cap (ls + lx) with h | h
                · exact h
                · exact absurd (Nat.ble_eq_true_of_le h) hroom
              split at hg
              · rename_i old new hold hnew
                split at hg
                · rename_i hav2
                  cases hg
                  rcases lenX_den hlx with ⟨rfl, h0⟩ | ⟨bx, offx, cx, rfl⟩
                  · omega
                  · obtain ⟨hl2, hn2⟩ := cellsX_den h hnew
                    have hmul : (ls + lx) * inf.bytes ≤ 1024 * 1024 := Nat.mul_le_mul d2 d4
                    rcases hs with ⟨rfl, rfl⟩ | ⟨b, off, len, rfl⟩
                    · rcases lenX_den hls with ⟨_, h0⟩ | ⟨b', off', c', h0⟩
                      · subst h0
                        simp only [Nat.zero_mul, cellsX] at hold
                        have hold0 : old = [] := by simpa using hold.symm
                        subst hold0
                        have hr := run_append_nil (P := P) w t ty e inf zv hu hi hzv ⟨ρ bx, (offx.den ν).toNat, none⟩ lx (cx.den ν).toNat (denL ν ρ new) (by rw [denL_length, hl2, hsz]) hn2 (by omega) (by omega) (by simp only [Nat.zero_add] at hmul; omega)
                        refine ⟨_, _, _, agree_updI nm w.heap.size ((grownCap w lx 0 e : Nat) : Int), ?_, h.grown (cs := [] ++ new) (rest := (Builtin.zeroCells zv.cells (grownCap w lx 0 e - lx)).toList) hav' hav2⟩
                        simp only [SV.den, SI.den] at hr ⊢
                        rw [show (Int.ofNat lx).toNat = lx from rfl, hr]
                        simp [upd, Env.updI]
                        rw [arr_app]
                      · cases h0
                    · rcases lenX_den hls with ⟨h0, _⟩ | ⟨b', off', c', h0⟩
                      · cases h0
                      · cases h0
                        obtain ⟨hl1, hn1⟩ := cellsX_den h hold
                        have hr := run_append_grow (P := P) w t ty e inf zv hu hi hzv ⟨ρ b, (off.den ν).toNat, none⟩ ls cap (denL ν ρ old) (by rw [denL_length, hl1, hsz]) hn1 ⟨ρ bx, (offx.den ν).toNat, none⟩ lx (cx.den ν).toNat (denL ν ρ new) (by rw [denL_length, hl2, hsz]) hn2 hlt (by omega) (growslice_fits (by omega) (by omega))
                        refine ⟨_, _, _, agree_updI nm w.heap.size ((grownCap w (ls + lx) cap e : Nat) : Int), ?_, h.grown (cs := old ++ new) (rest := (Builtin.zeroCells zv.cells (grownCap w (ls + lx) cap e - (ls + lx))).toList) hav' hav2⟩
                        simp only [SV.den, SI.den] at hr ⊢
                        rw [show (Int.ofNat lx).toNat = lx from rfl, show (Int.ofNat ls).toNat = ls from rfl, show (Int.ofNat cap).toNat = cap from rfl, hr]
                        simp [upd, Env.updI, denL_append]
                        exact ⟨by omega, by rw [arr_app, List.append_assoc]⟩
                · cases hg
              · cases hg
            · cases hg
      split at ha
      · exact key 0 (.inl ⟨rfl, rfl⟩) ha
      · rename_i b off len cap; exact key cap (.inr ⟨b, off, len, rfl⟩) ha
      · cases ha
    · cases ha
  · cases ha
/-! ### rows of integers -/
theorem toSL_den {k : IntKind} : ∀ {cs : List SV} {l : SL}, toSL k cs = some l → denL ν ρ cs = (l.den ν).map (Value.int k)
  | [], l, h => by simp only [toSL, Option.some.injEq] at h; subst h; simp [denL, SL.den]
  | .int j e :: r, l, h => by
    unfold toSL at h
    split at h
    · rename_i hk
      have hk := kBeq_eq hk
      subst hk
      simp only [Option.map_eq_some_iff] at h
      obtain ⟨l', hl, rfl⟩ := h
      simp [denL, SV.den, SL.den, toSL_den hl]
    · cases h
  | .bool _ :: _, _, h | .gv _ _ _ :: _, _, h | .osl _ _ _ :: _, _, h | .ptr _ _ :: _, _, h | .nilPtr :: _, _, h | .nilFunc :: _, _, h | .fn _ _ _ :: _, _, h | .nilSl :: _, _, h | .emp _ :: _, _, h | .dead :: _, _, h | .sl _ _ _ _ :: _, _, h | .opq _ :: _, _, h | .agg _ :: _, _, h | .tup _ :: _, _, h => by simp [toSL] at h

theorem asRow_den (h : HW B ν ρ hp w) {b : Nat} {bk : SBk} (hg : (b, bk) ∈ hp) {k : IntKind} {l : SL} {c : SI} {ty : Nat} (ha : asRow P bk = some (k, l, c, ty)) :
    ∃ rest : List Value, w.heap[ρ b]? = some (.cells ((l.den ν).map (Value.int k) ++ rest).toArray ty (0, 0)) ∧ c.den ν = ((l.den ν).length + rest.length : Nat) ∧ c.den ν ≤ 9223372036854775807 := by
  unfold asRow at ha
  split at ha
  · cases ha; exact h.ints hg
  · rename_i cs ty'
    split at ha
    · rename_i kk hu
      split at ha
      · rename_i hle
        have hle := Nat.le_of_ble_eq_true hle
        simp only [Option.map_eq_some_iff, Prod.mk.injEq] at ha
        obtain ⟨l', hl, rfl, rfl, rfl, rfl⟩ := ha
        obtain ⟨rest, hr, hex⟩ := h.row hg
        have hre := hex rfl
        subst hre
        have ht := toSL_den (ν := ν) (ρ := ρ) hl
        have hlen : (l'.den ν).length = cs.length := by
          have := congrArg List.length ht
          simpa [denL_length] using this.symm
        refine ⟨[], by rw [← ht]; exact hr, by simp [SI.den, hlen], by simp only [SI.den]; omega⟩
      · cases ha
    · cases ha
  · cases ha

/-- A slice's value reads as these values. -/
def Reads (w : World) (v : Value) (xs : List Value) : Prop := ∃ a n c, v = .slice a n c ∧ xs.length = n ∧ ((xs = [] ∧ a = none) ∨ ∃ ad, a = some ad ∧ ∀ j u, xs[j]? = some u → w.cell? (ad.add j) = some u)

theorem listX_den (h : HW B ν ρ hp w) {pc : PC} (hd : pcDen ν pc) {k : IntKind} {x : SV} {ls : List (PC × Option SL)} (hl : listX P pc hp k x = some ls) :
    ∃ r ∈ ls, pcDen ν r.1 ∧ ∀ nl, r.2 = some nl → Reads w (x.den ν ρ) ((nl.den ν).map (Value.int k)) := by
  unfold listX at hl
  split at hl
  · cases hl
    refine ⟨_, by simp; rfl, pcDen_nil ν, fun nl hn => ?_⟩
    cases hn
    exact ⟨none, 0, 0, rfl, by simp [SL.den], .inl ⟨by simp [SL.den], rfl⟩⟩
  · cases hl
    refine ⟨_, by simp; rfl, pcDen_nil ν, fun nl hn => ?_⟩
    cases hn
    exact ⟨_, 0, 0, rfl, by simp [SL.den], .inr ⟨_, rfl, fun j u hu => by simp [SL.den] at hu⟩⟩
  · rename_i b off len cap
    split at hl
    · rename_i j o l hg
      split at hl
      · rename_i hk
        simp only [Bool.and_eq_true] at hk
        have hk1 := kBeq_eq hk.1
        have hk2 := SI.beq_eq hk.2
        subst hk1 hk2
        obtain ⟨h0, hcell⟩ := h.view (hget_mem hg)
        have key : ∀ (xs : List Int) (n : Nat), (len.den ν).toNat = n → xs.length = n → (∀ (i : Nat) (u : Int), xs[i]? = some u → (l.den ν)[i]? = some u) → Reads w ((SV.sl b off len cap).den ν ρ) (xs.map (Value.int j)) := by
          intro xs n hn hlen hsub
          refine ⟨_, _, _, rfl, by simp [hlen, hn], .inr ⟨_, rfl, fun i u hu => ?_⟩⟩
          rw [List.getElem?_map] at hu
          cases hx : xs[i]? with
          | none => rw [hx] at hu; cases hu
          | some z =>
            rw [hx] at hu
            rw [add_none, hcell i z (hsub i z hx)]
            exact hu
        split at hl
        · rename_i hb
          cases hl
          refine ⟨_, by simp; rfl, pcDen_nil ν, fun nl hn => ?_⟩
          cases hn
          have hlen : len.den ν = ((l.den ν).length : Int) := by rw [← SI.beq_eq hb, SI.mkLen_den]
          exact key _ (l.den ν).length (by rw [hlen]; simp) rfl (fun i u hu => hu)
        · cases hl
          obtain ⟨x, hx, h1, h2⟩ := ways_den (ν := ν) (cs := [SB.mkLe (.lit 0) len, SB.mkLe len (SI.mkLen l)]) (SL.mkTake l len) hd
          refine ⟨x, hx, h1, fun nl hn => ?_⟩
          obtain ⟨rfl, hc⟩ := h2 nl hn
          have c1 := hc (SB.mkLe (.lit 0) len) (by simp)
          have c2 := hc (SB.mkLe len (SI.mkLen l)) (by simp)
          rw [SB.mkLe_den] at c1
          rw [SB.mkLe_den, SI.mkLen_den] at c2
          replace c1 : (0 : Int) ≤ len.den ν := of_decide_eq_true c1
          replace c2 := of_decide_eq_true c2
          rw [SL.mkTake_den]
          exact key _ (len.den ν).toNat rfl (by simp; omega) (fun i u hu => by
            rw [List.getElem?_take] at hu
            split at hu
            · exact hu
            · cases hu)
      · cases hl
    · rename_i bk hg
      split at hl
      · rename_i j l c ty ha
        split at hl
        · rename_i hk
          have hk := kBeq_eq hk
          subst hk
          obtain ⟨rest, hr, hcap, _⟩ := asRow_den h (hget_mem hg) ha
          have key : ∀ (xs : List Int) (o n : Nat), (off.den ν).toNat = o → (len.den ν).toNat = n → xs.length = n → (∀ i u, xs[i]? = some u → (l.den ν)[o + i]? = some u) → Reads w ((SV.sl b off len cap).den ν ρ) (xs.map (Value.int j)) := by
            intro xs o n ho hn hlen hsub
            refine ⟨_, _, _, rfl, by simp [hlen, hn], .inr ⟨_, rfl, fun i u hu => ?_⟩⟩
            rw [ho, add_none, cell_at hr]
            rw [List.getElem?_map] at hu
            cases hx : xs[i]? with
            | none => rw [hx] at hu; cases hu
            | some z =>
              rw [hx] at hu
              have := hsub i z hx
              rw [List.getElem?_append_left (by simpa using (List.getElem?_eq_some_iff.1 this).1), List.getElem?_map, this]
              exact hu
          split at hl
          · split at hl
            · rename_i hb
              cases hl
              refine ⟨_, by simp; rfl, pcDen_nil ν, fun nl hn => ?_⟩
              cases hn
              have hlen : len.den ν = ((l.den ν).length : Int) := by rw [← SI.beq_eq hb, SI.mkLen_den]
              exact key _ 0 (l.den ν).length rfl (by rw [hlen]; simp) rfl (fun i u hu => by simpa using hu)
            · cases hl
              obtain ⟨x, hx, h1, h2⟩ := ways_den (ν := ν) (cs := [SB.mkLe (.lit 0) len, SB.mkLe len (SI.mkLen l)]) (SL.mkTake l len) hd
              refine ⟨x, hx, h1, fun nl hn => ?_⟩
              obtain ⟨rfl, hc⟩ := h2 nl hn
              have c1 := hc (SB.mkLe (.lit 0) len) (by simp)
              have c2 := hc (SB.mkLe len (SI.mkLen l)) (by simp)
              rw [SB.mkLe_den] at c1
              rw [SB.mkLe_den, SI.mkLen_den] at c2
              replace c1 : (0 : Int) ≤ len.den ν := of_decide_eq_true c1
              replace c2 := of_decide_eq_true c2
              rw [SL.mkTake_den]
              exact key _ 0 (len.den ν).toNat rfl rfl (by simp; omega) (fun i u hu => by
                rw [List.getElem?_take] at hu
                split at hu
                · simpa using hu
                · cases hu)
          · rename_i off0
            cases hl
            obtain ⟨x, hx, h1, h2⟩ := ways_den (ν := ν) (cs := [SB.mkLe (.lit 0) off, SB.mkLe (.lit 0) len, SB.mkLe (SI.mkAdd off len) (SI.mkLen l)]) (SL.mkTake (SL.mkDrop l off) len) hd
            refine ⟨x, hx, h1, fun nl hn => ?_⟩
            obtain ⟨rfl, hc⟩ := h2 nl hn
            have c1 := hc (SB.mkLe (.lit 0) off) (by simp)
            have c2 := hc (SB.mkLe (.lit 0) len) (by simp)
            have c3 := hc (SB.mkLe (SI.mkAdd off len) (SI.mkLen l)) (by simp)
            rw [SB.mkLe_den] at c1 c2
            rw [SB.mkLe_den, SI.mkLen_den, SI.mkAdd_den] at c3
            replace c1 : (0 : Int) ≤ off.den ν := of_decide_eq_true c1
            replace c2 : (0 : Int) ≤ len.den ν := of_decide_eq_true c2
            replace c3 := of_decide_eq_true c3
            simp only [SL.mkTake_den, SL.mkDrop_den]
            exact key _ (off.den ν).toNat (len.den ν).toNat rfl rfl (by simp; omega) (fun i u hu => by
              rw [List.getElem?_take] at hu
              split at hu
              · rw [List.getElem?_drop] at hu; exact hu
              · cases hu)
        · cases hl
      · cases hl
    · cases hl
  · cases hl

theorem herase_mem {b : Nat} {x : Nat × SBk} : x ∈ herase b hp ↔ x ∈ hp ∧ x.1 ≠ b := by
  unfold herase
  rw [List.mem_filter]
  constructor
  · rintro ⟨h1, h2⟩
    refine ⟨h1, fun e => ?_⟩
    rw [e] at h2
    simp at h2
  · rintro ⟨h1, h2⟩
    refine ⟨h1, ?_⟩
    cases hq : Nat.beq x.1 b
    · rfl
    · exact absurd (Nat.eq_of_beq_eq_true hq) h2

theorem hav_erase {lo hi b : Nat} (h : hav lo hi hp = true) : hav lo hi (herase b hp) = true := by
  induction hp with
  | nil => rfl
  | cons x r ih =>
    obtain ⟨m, c⟩ := x
    simp only [hav, Bool.and_eq_true] at h
    unfold herase at *
    rw [List.filter_cons]
    split
    · simp only [hav, Bool.and_eq_true]; exact ⟨h.1, ih h.2⟩
    · exact ih h.2
end
end Go.Sy
end

section
namespace Go.Sy
open Go

section
variable {P : Program} {G : Type} {ν : Env G} {ρ : Nat → Nat} {B : Base} {hp : Heap} {w : World}

theorem own_at (h : HW B ν ρ hp w) {b : Nat} {bk : SBk} (hg : (b, bk) ∈ hp) (hc : NoRes bk) : B.own (ρ b) := by
  obtain ⟨F, h1, h2, _⟩ := h.foot
  exact h2 b bk _ hg ((BlkDen.single hc (h1 b bk hg) _).2 rfl)

theorem asRow_nores {bk : SBk} {k : IntKind} {l : SL} {c : SI} {ty : Nat} (ha : asRow P bk = some (k, l, c, ty)) : NoRes bk := by
  unfold asRow at ha
  split at ha
  · trivial
  · trivial
  · cases ha

theorem toSL_av {lo hi : Nat} {k : IntKind} : ∀ {cs : List SV} {l : SL}, toSL k cs = some l → avL lo hi cs = true → l.av lo hi = true
  | [], l, h, _ => by simp only [toSL, Option.some.injEq] at h; subst h; rfl
  | .int j e :: r, l, h, hv => by
    unfold toSL at h
    split at h
    · simp only [Option.map_eq_some_iff] at h
      obtain ⟨l', hl, rfl⟩ := h
      simp only [avL, SV.av, Bool.and_eq_true] at hv
      simp only [SL.av, Bool.and_eq_true]
      exact ⟨hv.1, toSL_av hl hv.2⟩
    · cases h
  | .bool _ :: _, _, h, _ | .gv _ _ _ :: _, _, h, _ | .osl _ _ _ :: _, _, h, _ | .ptr _ _ :: _, _, h, _ | .nilPtr :: _, _, h, _ | .nilFunc :: _, _, h, _ | .fn _ _ _ :: _, _, h, _ | .nilSl :: _, _, h, _ | .emp _ :: _, _, h, _ | .dead :: _, _, h, _ | .sl _ _ _ _ :: _, _, h, _ | .opq _ :: _, _, h, _ | .agg _ :: _, _, h, _ | .tup _ :: _, _, h, _ => by simp [toSL] at h

theorem asRow_av {lo hi : Nat} {bk : SBk} {k : IntKind} {l : SL} {c : SI} {ty : Nat} (ha : asRow P bk = some (k, l, c, ty)) (hv : bk.av lo hi = true) : l.av lo hi = true := by
  unfold asRow at ha
  split at ha
  · cases ha; simp only [SBk.av, Bool.and_eq_true] at hv; exact hv.1
  · split at ha
    · split at ha
      · simp only [Option.map_eq_some_iff, Prod.mk.injEq] at ha
        obtain ⟨l', hl, _, rfl, _, _⟩ := ha
        exact toSL_av hl hv
      · cases ha
    · cases ha
  · cases ha

/-- A row in the place of block b, under a new name. -/
theorem HW.rename (h : HW B ν ρ hp w) {b nm : Nat} {bk : SBk} (hg : (b, bk) ∈ hp) (hc : NoRes bk) (hav' : hav nm (nm + 1) hp = true) {x : Int} {b' : SBk} {w' : World}
    (ho : w'.os = w.os) (ht : w'.tape = w.tape) (hu : w'.output = w.output) (hs : w'.heap.size = w.heap.size) (hk : ∀ k, k ≠ ρ b → w'.heap[k]? = w.heap[k]?)
    (hb : BlkDen B (ν.updI nm x) (upd ρ nm (ρ b)) w' (fun j => j = ρ b) nm b') : HW B (ν.updI nm x) (upd ρ nm (ρ b)) (hadd nm b' (herase b hp)) w' := by
  have he : HW B ν ρ (herase b hp) w := h.sub
  have hown := own_at h hg hc
  refine he.put (agree_updI nm (ρ b) x) (hav_erase hav') ho ht hu (by omega) hown ?_ (fun j hj _ => hk j hj) hb (fun j hj => hk j (fun e => hj (e ▸ hown)))
  obtain ⟨F, h1, h2, h3⟩ := h.foot
  refine ⟨F, fun n c hm => h1 n c (herase_mem.1 hm).1, fun n c k hm => h2 n c k (herase_mem.1 hm).1, fun n c m d k hm hm' => h3 n c m d k (herase_mem.1 hm).1 (herase_mem.1 hm').1, fun n c hm hF => ?_⟩
  exact (herase_mem.1 hm).2 (h3 n c b bk (ρ b) (herase_mem.1 hm).1 hg hF ((BlkDen.single hc (h1 b bk hg) _).2 rfl))

theorem map_take_append (l m : List Int) (k : IntKind) (rest : List Value) :
    ((l.map (Value.int k) ++ rest).take l.length ++ m.map (Value.int k) ++ (l.map (Value.int k) ++ rest).drop (l.length + m.length)) = (l ++ m).map (Value.int k) ++ rest.drop m.length := by
  rw [List.take_append_of_le_length (by simp), List.take_of_length_le (by simp)]
  rw [List.drop_append]
  simp

theorem firstCells_empty (n : Nat) (a : Option Addr) (c : Nat) (w : World) : (Builtin.firstCells n 0 (.slice a 0 c)).run P w = .ok #[] w := by
  cases a <;> simp [Builtin.firstCells, loadCells, loadCellsFrom]

/-- append onto a row, and onto nil: what memory holds then. -/
theorem row_append {t e ty : Nat} {inf : TypeInfo} {z : Value} (hut : P.underlying t = some (.slice e)) (hi : P.info? e = some inf) (hz : inf.zero = some z) (hsize : inf.size = 1) (hby : inf.bytes ≤ 64) (hz1 : z.cells.size = 1)
    {g : Nat} {k : IntKind} {l m : List Int} {rest : List Value} {te : Nat} (hr : w.heap[g]? = some (.cells (l.map (Value.int k) ++ rest).toArray te (0, 0))) (hte : te = e) {c : Nat} (hc : c = l.length + rest.length) (hmax : (c : Int) ≤ 9223372036854775807)
    {xv : Value} (hx : Reads w xv (m.map (Value.int k))) (hsm : l.length + m.length < 1099511627776) :
    ∃ g' c' rest' w', (Builtin.append_ #[t, t] ty #[.slice (some ⟨g, 0, none⟩) l.length c, xv]).run P w = .ok (.slice (some ⟨g', 0, none⟩) (l.length + m.length) c') w' ∧
      w'.heap[g']? = some (.cells ((l ++ m).map (Value.int k) ++ rest').toArray e (0, 0)) ∧ c' = l.length + m.length + rest'.length ∧ (c' : Int) ≤ 9223372036854775807 ∧
      ((g' = g ∧ w'.os = w.os ∧ w'.tape = w.tape ∧ w'.output = w.output ∧ w'.heap.size = w.heap.size ∧ ∀ j, j ≠ g → w'.heap[j]? = w.heap[j]?) ∨ (g' = w.heap.size ∧ ∃ o, w' = w.drew.alloc o)) := by
  subst hte
  obtain ⟨xa, n, cx, rfl, hxl, hxr⟩ := hx
  have hn : m.length = n := by simpa using hxl
  subst hn
  by_cases h0 : m = []
  · subst h0
    refine ⟨g, c, rest, w, ?_, by simpa using hr, by simpa using hc, hmax, .inl ⟨rfl, rfl, rfl, rfl, rfl, fun _ _ => rfl⟩⟩
    have : l.length ≤ c := by omega
    simp [Builtin.append_, run_underlying hut, sizeOf, typeInfo, hi, Builtin.lenOf, firstCells_empty, this, storeCells]
  · rcases hxr with ⟨hnil, _⟩ | ⟨ad, rfl, hcell⟩
    · exact absurd (List.map_eq_nil_iff.1 hnil) h0
    · by_cases hroom : l.length + m.length ≤ c
      · have hrun := run_append_room (P := P) w t ty te inf hut hi g l.length c _ hr ad m.length cx (m.map (Value.int k)) (by simp [hsize]) hcell (fun u hu => by obtain ⟨y, _, rfl⟩ := List.mem_map.1 hu; rfl) hroom (by simp [hsize]; omega)
        have hta := map_take_append l m k rest
        simp only [List.length_map, hsize, Nat.mul_one, hta] at hrun
        refine ⟨g, c, rest.drop m.length, w.setRow g ((l ++ m).map (Value.int k) ++ rest.drop m.length).toArray, ?_, ?_, by simp; omega, hmax, .inl ⟨rfl, rfl, rfl, rfl, by simp, fun j hj => setRow_other w g j _ hj⟩⟩
        · exact hrun
        · rw [setRow_heap w g _ _ te _ hr]
      · have hge := grownCap_ge w (l.length + m.length) c te
        have hrun := run_append_grow (P := P) w t ty te inf z hut hi hz ⟨g, 0, none⟩ l.length c (l.map (Value.int k)) (by simp [hsize]) (fun j u hu => by
            rw [add_none, cell_at hr, Nat.zero_add, List.getElem?_append_left (List.getElem?_eq_some_iff.1 hu).1]; exact hu) ad m.length cx (m.map (Value.int k)) (by simp [hsize]) hcell (by omega) (by omega)
          (growslice_fits (by omega) (by
            have : (l.length + m.length) * inf.bytes ≤ 1099511627776 * 64 := Nat.mul_le_mul (by omega) hby
            omega))
        refine ⟨w.heap.size, grownCap w (l.length + m.length) c te, (Builtin.zeroCells z.cells (grownCap w (l.length + m.length) c te - (l.length + m.length))).toList, _, hrun, ?_, ?_, ?_, .inr ⟨rfl, _, rfl⟩⟩
        · rw [show w.heap.size = w.drew.heap.size from rfl, heap_alloc_new w.drew]
          congr 2
          apply Array.ext'
          simp
        · simp [size_zeroCells, hz1]; omega
        · have := grownCap_le_maxLen w (l.length + m.length) c te (by simp only [maxLen]; omega)
          simp only [maxLen] at this
          omega

theorem nil_append {t e ty : Nat} {inf : TypeInfo} {z : Value} (hut : P.underlying t = some (.slice e)) (hi : P.info? e = some inf) (hz : inf.zero = some z) (hsize : inf.size = 1) (hby : inf.bytes ≤ 64) (hz1 : z.cells.size = 1)
    {k : IntKind} {m : List Int} {xv : Value} (hx : Reads w xv (m.map (Value.int k))) (hsm : m.length < 1099511627776) (hm : 0 < m.length) :
    ∃ c' rest' o, (Builtin.append_ #[t, t] ty #[.slice none 0 0, xv]).run P w = .ok (.slice (some ⟨w.heap.size, 0, none⟩) m.length c') (w.drew.alloc o) ∧
      (w.drew.alloc o).heap[w.heap.size]? = some (.cells (m.map (Value.int k) ++ rest').toArray e (0, 0)) ∧ c' = m.length + rest'.length ∧ (c' : Int) ≤ 9223372036854775807 := by
  obtain ⟨xa, n, cx, rfl, hxl, hxr⟩ := hx
  have hn : m.length = n := by simpa using hxl
  subst hn
  rcases hxr with ⟨hnil, _⟩ | ⟨ad, rfl, hcell⟩
  · rw [List.map_eq_nil_iff.1 hnil] at hm; cases hm
  · have hge := grownCap_ge w m.length 0 e
    have hrun := run_append_nil (P := P) w t ty e inf z hut hi hz ad m.length cx (m.map (Value.int k)) (by simp [hsize]) hcell (by omega) (by omega) (by
      have : m.length * inf.bytes ≤ 1099511627776 * 64 := Nat.mul_le_mul (by omega) hby
      omega)
    refine ⟨grownCap w m.length 0 e, (Builtin.zeroCells z.cells (grownCap w m.length 0 e - m.length)).toList, _, hrun, ?_, ?_, ?_⟩
    · rw [show w.heap.size = w.drew.heap.size from rfl, heap_alloc_new w.drew]
      congr 2
      apply Array.ext'
      simp
    · simp [size_zeroCells, hz1]; omega
    · have := grownCap_le_maxLen w m.length 0 e (by simp only [maxLen]; omega)
      simp only [maxLen] at this
      omega

theorem nil_append_nil {t e ty : Nat} {inf : TypeInfo} (hut : P.underlying t = some (.slice e)) (hi : P.info? e = some inf) {xv : Value} (hx : Reads w xv []) :
    (Builtin.append_ #[t, t] ty #[.slice none 0 0, xv]).run P w = .ok (.slice none 0 0) w := by
  obtain ⟨xa, n, cx, rfl, hxl, hxr⟩ := hx
  have hn0 : n = 0 := by simpa using hxl.symm
  subst hn0
  simp [Builtin.append_, run_underlying hut, sizeOf, typeInfo, hi, Builtin.lenOf, firstCells_empty]

theorem zero_one (ν : Env G) (ρ : Nat → Nat) {e : Nat} {inf : TypeInfo} (z : SV) (hz : zeroT P e = some z) (h1 : z.cellsOf.length = 1) (hi : P.info? e = some inf) : ∃ zv, inf.zero = some zv ∧ zv.cells.size = 1 := by
  obtain ⟨i, zv, hi', hzv, hzd⟩ := zeroT_info (ν := ν) (ρ := ρ) hz
  have hii : inf = i := Option.some.inj (hi.symm.trans hi')
  subst hii
  refine ⟨zv, hzv, ?_⟩
  rw [hzd, cells_den]
  simp [denL_length, h1]

theorem appendR_run (h : HW B ν ρ hp w) {nm t : Nat} {pc : PC} (hd : pcDen ν pc) {s : SV} {nl : SL} {k : IntKind} {e : Nat} {xv : Value} (hut : P.underlying t = some (.slice e)) (hue : P.underlying e = some (.int k))
    (hx : Reads w xv ((nl.den ν).map (Value.int k))) {l : List (PC × Option (SV × Heap))} (ha : appendR P nm pc hp t s nl = some l) (ty : TypeId) :
    ∃ r ∈ l, ∃ ν' ρ', Agree nm (nm + 1) ν ν' ρ ρ' ∧ pcDen ν r.1 ∧ ∀ y, r.2 = some y → ∃ w', (Builtin.append_ #[t, t] ty #[s.den ν ρ, xv]).run P w = .ok (y.1.den ν' ρ') w' ∧ HW B ν' ρ' y.2 w' := by
  unfold appendR at ha
  rw [hut] at ha
  simp only [hue] at ha
  split at ha
  · rename_i k' inf z hk hsz hinf hz
    cases hk
    have hsize : inf.size = 1 := by unfold sizeT at hsz; rw [hinf] at hsz; simpa using hsz
    split at ha
    · rename_i hby
      simp only [Bool.and_eq_true] at hby
      have hby1 := Nat.le_of_ble_eq_true hby.1.1
      have hzl := Nat.eq_of_beq_eq_true hby.2
      obtain ⟨zv, hzv, hzc⟩ := zero_one ν ρ z hz hzl hinf
      split at ha
      · -- onto nil
        split at ha
        · rename_i hq
          simp only [Bool.and_eq_true] at hq
          obtain ⟨q5, q6⟩ := hq
          cases ha
          obtain ⟨x, hxm, h1, h2⟩ := need_den (ν := ν) (cs := [SB.mkLt (SI.mkLen nl) (.lit 1099511627776)]) hd
          cases hb : x.2 with
          | false =>
            refine ⟨(x.1, none), List.mem_flatMap.2 ⟨x, hxm, by simp [hb]⟩, ν, ρ, Agree.refl _ _ _ _, h1, fun y hy => by cases hy⟩
          | true =>
            have c1 := h2 hb (SB.mkLt (SI.mkLen nl) (.lit 1099511627776)) (by simp)
            rw [SB.mkLt_den, SI.mkLen_den] at c1
            replace c1 := of_decide_eq_true c1
            simp only [SI.den] at c1
            have hdp : pcDen ν (x.1 ++ pc) := pcDen_append h1 hd
            -- what is made
            have hnew : (SB.mkLt (.lit 0) (SI.mkLen nl)).den ν = true → ∃ ν' ρ', Agree nm (nm + 1) ν ν' ρ ρ' ∧ ∃ w', (Builtin.append_ #[t, t] ty #[SV.nilSl.den ν ρ, xv]).run P w = .ok ((SV.sl nm (.lit 0) (SI.mkLen nl) (.var nm)).den ν' ρ') w' ∧ HW B ν' ρ' (hadd nm (.row k nl (.var nm) e) hp) w' := by
              intro hc
              rw [SB.mkLt_den, SI.mkLen_den] at hc
              replace hc := of_decide_eq_true hc
              simp only [SI.den] at hc
              obtain ⟨c', rest', o, hrun, hheap, hcap, hmax⟩ := nil_append (ty := ty) hut hinf hzv hsize hby1 hzc hx (by omega) (by omega)
              obtain ⟨ν', hag, hv⟩ : ∃ ν', Agree nm (nm + 1) ν ν' ρ (upd ρ nm w.heap.size) ∧ ν'.i nm = (c' : Int) := ⟨ν.updI nm (c' : Int), agree_updI nm w.heap.size (c' : Int), by simp [Env.updI]⟩
              have e1 : upd ρ nm w.heap.size nm = w.heap.size := by simp [upd]
              have e2 : nl.den ν' = nl.den ν := SL.den_agree hag nl q5
              refine ⟨ν', upd ρ nm w.heap.size, hag, w.drew.alloc o, ?_, h.drew.new (n := nm) (b := .row k nl (.var nm) e) (o := o) hag q6 ?_⟩
              · rw [show SV.nilSl.den ν ρ = .slice none 0 0 from rfl, hrun]
                simp [SV.den, SI.den, SI.mkLen_den, e1, e2, hv]
              · simp only [BlkDen]
                refine ⟨⟨rest', ?_, ?_, ?_⟩, fun j => ?_⟩
                · rw [show w.drew.heap.size = w.heap.size from rfl, e1, e2]; exact hheap
                · rw [e2]; simp [SI.den, hv, hcap]
                · simp only [SI.den, hv]; exact hmax
                · rw [show w.drew.heap.size = w.heap.size from rfl, e1]
            have hnone : (SB.mkLt (.lit 0) (SI.mkLen nl)).den ν = false → ∃ ν' ρ', Agree nm (nm + 1) ν ν' ρ ρ' ∧ ∃ w', (Builtin.append_ #[t, t] ty #[SV.nilSl.den ν ρ, xv]).run P w = .ok (SV.nilSl.den ν' ρ') w' ∧ HW B ν' ρ' hp w' := by
              intro hc
              rw [SB.mkLt_den, SI.mkLen_den] at hc
              replace hc := of_decide_eq_false hc
              simp only [SI.den] at hc
              have hnil : nl.den ν = [] := List.length_eq_zero_iff.1 (by omega)
              rw [hnil] at hx
              exact ⟨ν, ρ, Agree.refl _ _ _ _, w, nil_append_nil hut hinf hx, h⟩
            have fin : ∀ (pcx : PC) (b : Bool), pcDen ν pcx → (SB.mkLt (.lit 0) (SI.mkLen nl)).den ν = b → ∃ ν' ρ', Agree nm (nm + 1) ν ν' ρ ρ' ∧ pcDen ν pcx ∧
                ∀ y, (if b = true then some (SV.sl nm (.lit 0) (SI.mkLen nl) (.var nm), hadd nm (.row k nl (.var nm) e) hp) else some (SV.nilSl, hp)) = some y → ∃ w', (Builtin.append_ #[t, t] ty #[SV.nilSl.den ν ρ, xv]).run P w = .ok (y.1.den ν' ρ') w' ∧ HW B ν' ρ' y.2 w' := by
              intro pcx b hp1 hb'
              cases b with
              | true =>
                obtain ⟨ν', ρ', g1, w', g2, g3⟩ := hnew hb'
                exact ⟨ν', ρ', g1, hp1, fun y hy => by cases hy; exact ⟨w', g2, g3⟩⟩
              | false =>
                obtain ⟨ν', ρ', g1, w', g2, g3⟩ := hnone hb'
                exact ⟨ν', ρ', g1, hp1, fun y hy => by cases hy; exact ⟨w', g2, g3⟩⟩
            cases hk2 : (SB.mkLt (.lit 0) (SI.mkLen nl)).known (x.1 ++ pc) with
            | some bb =>
              have hden := SB.known_den hdp hk2
              obtain ⟨ν', ρ', g1, g2, g3⟩ := fin x.1 bb h1 hden
              cases bb with
              | true => exact ⟨_, List.mem_flatMap.2 ⟨x, hxm, by simp only [hb, if_true, hk2]; exact List.mem_singleton.2 rfl⟩, ν', ρ', g1, g2, g3⟩
              | false => exact ⟨_, List.mem_flatMap.2 ⟨x, hxm, by simp only [hb, if_true, hk2]; exact List.mem_singleton.2 rfl⟩, ν', ρ', g1, g2, g3⟩
            | none =>
              cases hbb : (SB.mkLt (.lit 0) (SI.mkLen nl)).den ν with
              | true =>
                obtain ⟨ν', ρ', g1, g2, g3⟩ := fin ((SB.mkLt (.lit 0) (SI.mkLen nl), true) :: x.1) true (pcDen_cons hbb h1) hbb
                exact ⟨_, List.mem_flatMap.2 ⟨x, hxm, by simp only [hb, if_true, hk2]; exact List.mem_cons_self ..⟩, ν', ρ', g1, g2, g3⟩
              | false =>
                obtain ⟨ν', ρ', g1, g2, g3⟩ := fin ((SB.mkLt (.lit 0) (SI.mkLen nl), false) :: x.1) false (pcDen_cons hbb h1) hbb
                exact ⟨_, List.mem_flatMap.2 ⟨x, hxm, by simp only [hb, if_true, hk2]; exact List.mem_cons_of_mem _ (List.mem_cons_self ..)⟩, ν', ρ', g1, g2, g3⟩
        · cases ha
      · -- onto a row
        rename_i b len cap
        split at ha
        · rename_i bk hg
          split at ha
          · rename_i j l0 c0 ty0 har
            split at ha
            · rename_i hc
              simp only [Bool.and_eq_true] at hc
              obtain ⟨⟨⟨⟨⟨q1, q2⟩, q3⟩, q4⟩, q5⟩, q6⟩ := hc
              have q1 := kBeq_eq q1
              have q2 := Nat.eq_of_beq_eq_true q2
              have q3 := SI.beq_eq q3
              have q4 := SI.beq_eq q4
              subst q1 q2 q3 q4
              cases ha
              obtain ⟨x, hxm, h1, h2⟩ := ways_den (ν := ν) (cs := [SB.mkLt (SI.mkAdd (SI.mkLen l0) (SI.mkLen nl)) (.lit 1099511627776)])
                ((SV.sl nm (.lit 0) (SI.mkLen (SL.mkApp l0 nl)) (.var nm), hadd nm (.row j (SL.mkApp l0 nl) (.var nm) ty0) (herase b hp))) hd
              obtain ⟨rest, hr, hcap, hmax⟩ := asRow_den h (hget_mem hg) har
              have hl0av : l0.av nm (nm + 1) = true := asRow_av har (hav_mem q6 b bk (hget_mem hg)).2
              cases hx2 : x.2 with
              | none => exact ⟨x, hxm, ν, ρ, Agree.refl _ _ _ _, h1, fun y hy => by rw [hx2] at hy; cases hy⟩
              | some y0 =>
                obtain ⟨rfl, hcs⟩ := h2 y0 hx2
                have c1 := hcs (SB.mkLt (SI.mkAdd (SI.mkLen l0) (SI.mkLen nl)) (.lit 1099511627776)) (by simp)
                rw [SB.mkLt_den, SI.mkAdd_den, SI.mkLen_den, SI.mkLen_den] at c1
                replace c1 := of_decide_eq_true c1
                simp only [SI.den] at c1
                obtain ⟨g', c', rest', w', hrun, hheap, hcap', hmax', hwhere⟩ := row_append (ty := ty) hut hinf hzv hsize hby1 hzc hr rfl (c := (c0.den ν).toNat) (by omega) (by omega) hx (by omega)
                obtain ⟨ν', hag, hv⟩ : ∃ ν', Agree nm (nm + 1) ν ν' ρ (upd ρ nm g') ∧ ν' = ν.updI nm (c' : Int) := ⟨ν.updI nm (c' : Int), agree_updI nm g' (c' : Int), rfl⟩
                have hv' : ν'.i nm = (c' : Int) := by rw [hv]; simp [Env.updI]
                have e1 : upd ρ nm g' nm = g' := by simp [upd]
                have e2 : nl.den ν' = nl.den ν := SL.den_agree hag nl q5
                have e3 : l0.den ν' = l0.den ν := SL.den_agree hag l0 hl0av
                have hblk : ∀ (ww : World), ww.heap[g']? = w'.heap[g']? → BlkDen B ν' (upd ρ nm g') ww (fun j => j = g') nm (.row j (SL.mkApp l0 nl) (.var nm) ty0) := by
                  intro ww hww
                  simp only [BlkDen, SL.mkApp_den, e1, e2, e3]
                  refine ⟨⟨rest', by rw [hww]; exact hheap, by simp [SI.den, hv', hcap'], by simp only [SI.den, hv']; exact hmax'⟩, fun _ => trivial⟩
                refine ⟨x, hxm, ν', upd ρ nm g', hag, h1, fun y hy => ?_⟩
                rw [hx2] at hy
                cases hy
                refine ⟨w', ?_, ?_⟩
                · have e5 : (((l0.den ν).length : Int) + ((nl.den ν).length : Int)).toNat = (l0.den ν).length + (nl.den ν).length := by omega
                  simp only [SV.den, SI.den, SI.mkLen_den, SL.mkApp_den, List.length_append, e1, e2, e3, hv', Int.toNat_natCast, Int.toNat_zero]
                  exact hrun
                · rcases hwhere with ⟨rfl, ho, ht, hu, hs, hk⟩ | ⟨rfl, o, rfl⟩
                  · subst hv
                    exact h.rename (hget_mem hg) (asRow_nores har) q6 ho ht hu hs hk (hblk w' rfl)
                  · have he : HW B ν ρ (herase b hp) w.drew := HW.sub h.drew
                    exact he.new (n := nm) (o := o) hag (hav_erase q6) (hblk _ rfl)
            · cases ha
          · cases ha
        · cases ha
      · cases ha
    · cases ha
  · cases ha

/-- append-of-make onto a row: what memory holds then. -/
theorem row_appendZ {t u e ty : Nat} {kn kq : IntKind} {inf : TypeInfo} {z : Value} (hut : P.underlying t = some (.slice e)) (hun : P.underlying u = some (.int kn)) (hi : P.info? e = some inf) (hz : inf.zero = some z) (hsize : inf.size = 1) (hby : inf.bytes ≤ 64) {k : IntKind} (hz1 : z.cells = #[Value.int k 0])
    {g : Nat} {l : List Int} {rest : List Value} {te : Nat} (hr : w.heap[g]? = some (.cells (l.map (Value.int k) ++ rest).toArray te (0, 0))) (hte : te = e) {c : Nat} (hc : c = l.length + rest.length) (hmax : (c : Int) ≤ 9223372036854775807)
    {n : Nat} (hsm : l.length + n < 1099511627776) :
    ∃ g' c' rest' w', (Builtin.append_ #[t, u] ty #[.slice (some ⟨g, 0, none⟩) l.length c, .int kq (n : Int)]).run P w = .ok (.slice (some ⟨g', 0, none⟩) (l.length + n) c') w' ∧
      w'.heap[g']? = some (.cells ((l ++ List.replicate n 0).map (Value.int k) ++ rest').toArray e (0, 0)) ∧ c' = l.length + n + rest'.length ∧ (c' : Int) ≤ 9223372036854775807 ∧
      ((g' = g ∧ w'.os = w.os ∧ w'.tape = w.tape ∧ w'.output = w.output ∧ w'.heap.size = w.heap.size ∧ ∀ j, j ≠ g → w'.heap[j]? = w.heap[j]?) ∨ (g' = w.heap.size ∧ ∃ o, w' = w.drew.alloc o)) := by
  subst hte
  have hzc : ∀ m, Builtin.zeroCells z.cells m = ((List.replicate m (0 : Int)).map (Value.int k)).toArray := by
    intro m
    rw [hz1]
    apply Array.ext'
    simp only [Builtin.zeroCells, List.map_replicate]
    refine List.ext_getElem (by simp) fun i h1 h2 => ?_
    simp [Nat.mod_one]
  have hwr : IntKind.i64.wrap (n : Int) = n := by rw [IntKind.wrap_i64]; omega
  have hneg : ¬ ((n : Int) < 0) := by omega
  have h48i : ¬ (281474976710656 < (n : Int) * (inf.bytes : Int)) := by
    have : n * inf.bytes ≤ 1099511627776 * 64 := Nat.mul_le_mul (by omega) hby
    rw [← Int.natCast_mul]
    omega
  by_cases h0 : n = 0
  · subst h0
    refine ⟨g, c, rest, w, ?_, by simpa using hr, by simpa using hc, hmax, .inl ⟨rfl, rfl, rfl, rfl, rfl, fun _ _ => rfl⟩⟩
    have : l.length ≤ c := by omega
    simp [Builtin.append_, run_underlying hut, run_underlying hun, sizeOf, typeInfo, hi, asInt, asIntOf, IntKind.wrap_i64, this, storeCells]
  · have hns : ¬ (n * inf.size = 0) := by rw [hsize]; omega
    by_cases hroom : l.length + n ≤ c
    · have hst := run_storeCells_at P g (l.length * inf.size) te ((List.replicate n (0 : Int)).map (Value.int k)) 0 (l.map (Value.int k) ++ rest).toArray w hr (by simp [hsize]; omega) (fun u hu => by obtain ⟨y, _, rfl⟩ := List.mem_map.1 hu; rfl)
      simp only [Nat.add_zero] at hst
      have hta := map_take_append l (List.replicate n 0) k rest
      simp only [List.length_replicate] at hta
      refine ⟨g, c, rest.drop n, w.setRow g ((l ++ List.replicate n 0).map (Value.int k) ++ rest.drop n).toArray, ?_, ?_, by simp; omega, hmax, .inl ⟨rfl, rfl, rfl, rfl, by simp, fun j hj => setRow_other w g j _ hj⟩⟩
      · simp only [hsize, Nat.mul_one, List.length_map, List.length_replicate, hta] at hst
        simp only [List.map_append, List.map_replicate] at hst ⊢
        simp [Builtin.append_, run_underlying hut, run_underlying hun, sizeOf, typeInfo, zeroValue, hi, hz, hsize, asInt, asIntOf, hwr, hneg, h48i, h0, hroom, hzc, Addr.add_lit, hst]
      · rw [setRow_heap w g _ _ te _ hr]
    · have hge := grownCap_ge w (l.length + n) c te
      have hold : (Builtin.firstCells inf.size l.length (.slice (some ⟨g, 0, none⟩) l.length c)).run P w.drew = .ok (l.map (Value.int k)).toArray w.drew :=
        run_firstCells_some (P := P) w.drew inf.size l.length ⟨g, 0, none⟩ l.length c (l.map (Value.int k)) (by simp [hsize]) (fun j u hu => by
          rw [add_none]
          have := cell_at (w := w) hr (0 + j)
          rw [show w.drew.cell? ⟨g, 0 + j, none⟩ = w.cell? ⟨g, 0 + j, none⟩ from rfl, this, Nat.zero_add, List.getElem?_append_left (List.getElem?_eq_some_iff.1 hu).1]
          exact hu)
      have hrun := Go.Lib.run_append_grow_zeros (P := P) w t u ty te inf z kq kn hut hun hi hz (some ⟨g, 0, none⟩) l.length c (l.map (Value.int k)) hold n (by omega) (by omega) (by omega) (by omega) (by
          have : n * inf.bytes ≤ 1099511627776 * 64 := Nat.mul_le_mul (by omega) hby
          omega)
        (growslice_fits (by omega) (by
            have : (l.length + n) * inf.bytes ≤ 1099511627776 * 64 := Nat.mul_le_mul (by omega) hby
            omega))
      refine ⟨w.heap.size, grownCap w (l.length + n) c te, (Builtin.zeroCells z.cells (grownCap w (l.length + n) c te - (l.length + n))).toList, _, hrun, ?_, ?_, ?_, .inr ⟨rfl, _, rfl⟩⟩
      · rw [show w.heap.size = w.drew.heap.size from rfl, heap_alloc_new w.drew]
        congr 2
        apply Array.ext'
        simp [hzc]
      · simp [hzc]; omega
      · have := grownCap_le_maxLen w (l.length + n) c te (by simp only [maxLen]; omega)
        simp only [maxLen] at this
        omega

theorem appendZ_run (h : HW B ν ρ hp w) {nm t u : Nat} {kn kq : IntKind} {pc : PC} (hd : pcDen ν pc) {s : SV} {n : SI} (hun : P.underlying u = some (.int kn)) {l : List (PC × Option (SV × Heap))} (ha : appendZ P nm pc hp t s n = some l) (ty : TypeId) :
    ∃ r ∈ l, ∃ ν' ρ', Agree nm (nm + 1) ν ν' ρ ρ' ∧ pcDen ν r.1 ∧ ∀ y, r.2 = some y → ∃ w', (Builtin.append_ #[t, u] ty #[s.den ν ρ, .int kq (n.den ν)]).run P w = .ok (y.1.den ν' ρ') w' ∧ HW B ν' ρ' y.2 w' := by
  unfold appendZ at ha
  split at ha
  · rename_i b len cap
    split at ha
    · rename_i e hut
      split at ha
      · rename_i k inf z hue hsz hinf hz
        have hsize : inf.size = 1 := by unfold sizeT at hsz; rw [hinf] at hsz; simpa using hsz
        split at ha
        · rename_i hby
          simp only [Bool.and_eq_true] at hby
          have hby1 := Nat.le_of_ble_eq_true hby.1.1
          have hzb := SV.beq_eq hby.2
          subst hzb
          obtain ⟨i', zv, hi', hzv, hzd⟩ := zeroT_info (ν := ν) (ρ := ρ) hz
          have hii : inf = i' := Option.some.inj (hinf.symm.trans hi')
          subst hii
          have hzc : zv.cells = #[Value.int k 0] := by rw [hzd]; simp [SV.den, SI.den, Value.cells]
          split at ha
          · rename_i bk hg
            split at ha
            · rename_i j l0 c0 ty0 har
              split at ha
              · rename_i hc
                simp only [Bool.and_eq_true] at hc
                obtain ⟨⟨⟨⟨⟨q1, q2⟩, q3⟩, q4⟩, q5⟩, q6⟩ := hc
                have q1 := kBeq_eq q1
                have q2 := Nat.eq_of_beq_eq_true q2
                have q3 := SI.beq_eq q3
                have q4 := SI.beq_eq q4
                subst q1 q2 q3 q4
                cases ha
                obtain ⟨x, hxm, h1, h2⟩ := ways_den (ν := ν) (cs := [SB.mkLe (.lit 0) n, SB.mkLt (SI.mkAdd (SI.mkLen l0) n) (.lit 1099511627776)])
                  ((SV.sl nm (.lit 0) (SI.mkLen (SL.mkApp l0 (.rep n (.lit 0)))) (.var nm), hadd nm (.row k (SL.mkApp l0 (.rep n (.lit 0))) (.var nm) ty0) (herase b hp))) hd
                obtain ⟨rest, hr, hcap, hmax⟩ := asRow_den h (hget_mem hg) har
                have hl0av : l0.av nm (nm + 1) = true := asRow_av har (hav_mem q6 b bk (hget_mem hg)).2
                cases hx2 : x.2 with
                | none => exact ⟨x, hxm, ν, ρ, Agree.refl _ _ _ _, h1, fun y hy => by rw [hx2] at hy; cases hy⟩
                | some y0 =>
                  obtain ⟨rfl, hcs⟩ := h2 y0 hx2
                  have c0' := hcs (SB.mkLe (.lit 0) n) (by simp)
                  have c1 := hcs (SB.mkLt (SI.mkAdd (SI.mkLen l0) n) (.lit 1099511627776)) (by simp)
                  rw [SB.mkLe_den] at c0'
                  rw [SB.mkLt_den, SI.mkAdd_den, SI.mkLen_den] at c1
                  replace c0' : (0 : Int) ≤ n.den ν := of_decide_eq_true c0'
                  replace c1 : ((l0.den ν).length : Int) + n.den ν < 1099511627776 := of_decide_eq_true c1
                  obtain ⟨m, hm⟩ : ∃ m : Nat, n.den ν = (m : Int) := ⟨(n.den ν).toNat, by omega⟩
                  obtain ⟨g', c', rest', w', hrun, hheap, hcap', hmax', hwhere⟩ := row_appendZ (ty := ty) (kq := kq) hut hun hinf hzv hsize hby1 hzc hr rfl (c := (c0.den ν).toNat) (by omega) (by omega) (n := m) (by omega)
                  obtain ⟨ν', hag, hv⟩ : ∃ ν', Agree nm (nm + 1) ν ν' ρ (upd ρ nm g') ∧ ν' = ν.updI nm (c' : Int) := ⟨ν.updI nm (c' : Int), agree_updI nm g' (c' : Int), rfl⟩
                  have hv' : ν'.i nm = (c' : Int) := by rw [hv]; simp [Env.updI]
                  have e1 : upd ρ nm g' nm = g' := by simp [upd]
                  have e2 : n.den ν' = (m : Int) := (SI.den_agree hag n q5).trans hm
                  have e3 : l0.den ν' = l0.den ν := SL.den_agree hag l0 hl0av
                  have hblk : ∀ (ww : World), ww.heap[g']? = w'.heap[g']? → BlkDen B ν' (upd ρ nm g') ww (fun j => j = g') nm (.row k (SL.mkApp l0 (.rep n (.lit 0))) (.var nm) ty0) := by
                    intro ww hww
                    simp only [BlkDen, SL.mkApp_den, SL.den, SI.den, e1, e2, e3, Int.toNat_natCast]
                    refine ⟨⟨rest', by rw [hww]; exact hheap, by simp [hv', hcap'], by rw [hv']; exact hmax'⟩, fun _ => trivial⟩
                  refine ⟨x, hxm, ν', upd ρ nm g', hag, h1, fun y hy => ?_⟩
                  rw [hx2] at hy
                  cases hy
                  refine ⟨w', ?_, ?_⟩
                  · have e5 : (((l0.den ν).length : Int) + (m : Int)).toNat = (l0.den ν).length + m := by omega
                    simp only [SV.den, SI.den, SI.mkLen_den, SL.mkApp_den, SL.den, List.length_append, List.length_replicate, e1, e2, e3, hv', hm, Int.toNat_natCast, Int.toNat_zero]
                    exact hrun
                  · rcases hwhere with ⟨rfl, ho, ht, hu, hs, hk⟩ | ⟨rfl, o, rfl⟩
                    · subst hv
                      exact h.rename (hget_mem hg) (asRow_nores har) q6 ho ht hu hs hk (hblk w' rfl)
                    · have he : HW B ν ρ (herase b hp) w.drew := HW.sub h.drew
                      exact he.new (n := nm) (o := o) hag (hav_erase q6) (hblk _ rfl)
              · cases ha
            · cases ha
          · cases ha
        · cases ha
      · cases ha
    · cases ha
  · cases ha

theorem repL_int (k : IntKind) (x : SI) : ∀ m, denL ν ρ (repL m [SV.int k x]) = (List.replicate m (x.den ν)).map (Value.int k)
  | 0 => rfl
  | m + 1 => by simp [repL, denL, SV.den, repL_int k x m, List.replicate_succ]

theorem makeX_run (h : HW B ν ρ hp w) {nm t : Nat} {pc : PC} (hd : pcDen ν pc) {len cap : SI} {l : List (PC × Option (SV × Heap))} (hl : makeX P nm pc hp t len cap = some l) :
    ∃ r ∈ l, ∃ ν' ρ', Agree nm (nm + 1) ν ν' ρ ρ' ∧ pcDen ν r.1 ∧ ∀ y, r.2 = some y → ∃ w', (Instr.makeSlice t (.int .i64 (len.den ν)) (.int .i64 (cap.den ν))).run P w = .ok (y.1.den ν' ρ') w' ∧ HW B ν' ρ' y.2 w' := by
  unfold makeX at hl
  split at hl
  · rename_i e hu
    split at hl
    · rename_i n z inf hn hz hinf
      obtain ⟨i, zv, hi, hzv, hzd⟩ := zeroT_info (ν := ν) (ρ := ρ) hz
      have hii : inf = i := Option.some.inj (hinf.symm.trans hi)
      subst hii
      have hsz : inf.size = n := by unfold sizeT at hn; rw [hi] at hn; simpa using hn
      split at hl
      · rename_i hc
        simp only [Bool.and_eq_true] at hc
        obtain ⟨⟨⟨⟨q1, q2⟩, q3⟩, q4⟩, q5⟩ := hc
        have q1 := SI.beq_eq q1
        have q2 := Nat.le_of_ble_eq_true q2
        have q3 := Nat.eq_of_beq_eq_true q3
        have q4 := Nat.le_of_ble_eq_true q4
        subst q1
        have hag := agree_upd (ν := ν) (ρ := ρ) nm w.heap.size
        have e1 : upd ρ nm w.heap.size nm = w.heap.size := by simp [upd]
        split at hl
        · rename_i m
          split at hl
          · rename_i hm
            simp only [Bool.and_eq_true] at hm
            have hm1 := Nat.le_of_ble_eq_true hm.1
            have hm2 := Nat.le_of_ble_eq_true hm.2
            cases hl
            refine ⟨_, List.mem_singleton.2 rfl, ν, upd ρ nm w.heap.size, hag, pcDen_nil ν, fun y hy => ?_⟩
            cases hy
            have hb : (inf.bytes : Int) * ((m : Nat) : Int) ≤ 281474976710656 := by
              have : inf.bytes * m ≤ 1024 * 4096 := Nat.mul_le_mul q4 hm2
              have h2 : ((inf.bytes * m : Nat) : Int) ≤ 281474976710656 := by omega
              rwa [Int.natCast_mul] at h2
            have hrun := run_make (P := P) w t e inf zv hu hi hzv .i64 .i64 ((m : Nat) : Int) ((m : Nat) : Int) (by omega) (Int.le_refl _) hb (by omega)
            have hcells : madeCells zv.cells (m * n) = (denL ν ρ (repL m z.cellsOf)).toArray := by
              have := range_rep (ν := ν) (ρ := ρ) z m n q3 q2
              rw [← hzd] at this
              exact this
            simp only [Int.toNat_natCast, hsz, hcells] at hrun
            refine ⟨w.alloc (.cells (denL ν ρ (repL m z.cellsOf)).toArray e), ?_, h.new (n := nm) (b := .cells (repL m z.cellsOf) e true) hag q5 ?_⟩
            · simp only [SV.den, SI.den, e1]
              exact hrun
            · simp only [BlkDen]
              rw [e1]
              refine ⟨?_, fun _ => Iff.rfl⟩
              have hzr : denL ν (upd ρ nm w.heap.size) (repL m z.cellsOf) = denL ν ρ (repL m z.cellsOf) := by
                obtain ⟨i', zv', hi', hzv', hzd'⟩ := zeroT_info (ν := ν) (ρ := upd ρ nm w.heap.size) hz
                have hii' : inf = i' := Option.some.inj (hinf.symm.trans hi')
                subst hii'
                have ez : zv' = zv := Option.some.inj (hzv'.symm.trans hzv)
                have h2 : madeCells zv'.cells (m * n) = (denL ν (upd ρ nm w.heap.size) (repL m z.cellsOf)).toArray := by
                  have := range_rep (ν := ν) (ρ := upd ρ nm w.heap.size) z m n q3 q2
                  rw [← hzd'] at this
                  exact this
                rw [ez, hcells] at h2
                simpa using h2.symm
              rw [hzr]
              exact heap_alloc_new w _
          · cases hl
        · split at hl
          · rename_i hne _ k x _
            split at hl
            · rename_i hav2
              simp only [Bool.and_eq_true] at hav2
              cases hl
              obtain ⟨r, hr, h1, h2⟩ := ways_den (ν := ν) (cs := [SB.mkLe (.lit 0) len, SB.mkLt len (.lit 1073741824)]) (SV.sl nm (.lit 0) (SI.mkNat len) (SI.mkNat len), hadd nm (.row k (.rep len x) (SI.mkNat len) e) hp) hd
              refine ⟨r, hr, ν, upd ρ nm w.heap.size, hag, h1, fun y hy => ?_⟩
              obtain ⟨rfl, hc⟩ := h2 y hy
              have c1 := hc (SB.mkLe (.lit 0) len) (by simp)
              have c2 := hc (SB.mkLt len (.lit 1073741824)) (by simp)
              rw [SB.mkLe_den] at c1
              rw [SB.mkLt_den] at c2
              replace c1 : (0 : Int) ≤ len.den ν := of_decide_eq_true c1
              replace c2 : len.den ν < 1073741824 := of_decide_eq_true c2
              obtain ⟨m, hm⟩ : ∃ m : Nat, len.den ν = (m : Int) := ⟨(len.den ν).toNat, by omega⟩
              have hb : (inf.bytes : Int) * ((m : Nat) : Int) ≤ 281474976710656 := by
                have : inf.bytes * m ≤ 1024 * 1073741824 := Nat.mul_le_mul q4 (by omega)
                have h2 : ((inf.bytes * m : Nat) : Int) ≤ 281474976710656 := by omega
                rwa [Int.natCast_mul] at h2
              have hrun := run_make (P := P) w t e inf zv hu hi hzv .i64 .i64 ((m : Nat) : Int) ((m : Nat) : Int) (by omega) (Int.le_refl _) hb (by omega)
              have hn1 : n = 1 := by simpa [SV.cellsOf] using q3.symm
              subst hn1
              have hcells : madeCells zv.cells (m * 1) = ((List.replicate m (x.den ν)).map (Value.int k)).toArray := by
                have := range_rep (ν := ν) (ρ := ρ) (.int k x) m 1 q3 q2
                rw [← hzd] at this
                rw [← repL_int (ν := ν) (ρ := ρ)]
                exact this
              simp only [Int.toNat_natCast, hsz, hcells] at hrun
              refine ⟨w.alloc (.cells ((List.replicate m (x.den ν)).map (Value.int k)).toArray e), ?_, h.new (n := nm) (b := .row k (.rep len x) (SI.mkNat len) e) hag q5 ?_⟩
              · simp only [SV.den, SI.den, SI.mkNat_den, e1, hm, Int.toNat_natCast]
                exact hrun
              · simp only [BlkDen, SL.den, SI.mkNat_den, hm, Int.toNat_natCast]
                rw [e1]
                refine ⟨⟨[], ?_, by simp, by omega⟩, fun _ => Iff.rfl⟩
                rw [List.append_nil]
                exact heap_alloc_new w _
            · cases hl
          · cases hl
      · cases hl
    · cases hl
  · cases hl

theorem indexX_run {t e n : Nat} {pc : PC} (hd : pcDen ν pc) (hu : P.underlying t = some (.slice e)) (hn : sizeT P e = some n) {b : Nat} {off len i : SI} {l : List (PC × Option SV)} (hl : indexX pc n b off len i = some l) (kk : IntKind) (cap : Nat) (w : World) :
    ∃ r ∈ l, pcDen ν r.1 ∧ ∀ v, r.2 = some v → (Instr.indexAt t (.slice (some ⟨ρ b, (off.den ν).toNat, none⟩) (len.den ν).toNat cap) (.int kk (i.den ν))).run P w = .ok (v.den ν ρ) w := by
  have key : ∀ (o m : Nat) (k : Int), 0 ≤ k → k < (m : Int) → (Instr.indexAt t (.slice (some ⟨ρ b, o, none⟩) m cap) (.int kk k)).run P w = .ok (.pointer (some ⟨ρ b, o + k.toNat * n, none⟩)) w := by
    intro o m k h0 h1
    have hb' : (0 : Int) ≤ k ∧ k < (m : Int) := ⟨h0, h1⟩
    simp only [Instr.indexAt, asIntOf, Sem.run_bind, Sem.run_pure, Result.andThen_ok, run_underlying hu]
    simp only [Sem.run_ite, hb', and_self, if_true, Sem.run_bind, sizeT_run hn, Result.andThen_ok, Sem.run_pure, add_none]
    try (split <;> simp [run_underlying hu])
  unfold indexX at hl
  split at hl
  · rename_i off len k
    split at hl
    · rename_i hc
      have h1 := Nat.le_of_ble_eq_true hc
      cases hl
      refine ⟨_, List.mem_singleton.2 rfl, pcDen_nil ν, fun v hv => ?_⟩
      cases hv
      simp only [SI.den, SV.den]
      have e2 : (Int.ofNat len).toNat = len := rfl
      have e3 : (Int.ofNat off).toNat = off := rfl
      rw [e2, e3, key off len (Int.ofNat k) (Int.natCast_nonneg k) (by show (k : Int) < (len : Int); omega)]
      rfl
    · cases hl
      exact ⟨_, List.mem_singleton.2 rfl, pcDen_nil ν, fun v hv => by cases hv⟩
  · have nonneg3 : ∀ {r : PC × Option SV} {v z : SV}, r.2 = some v → (∀ u, r.2 = some u → u = z ∧ ∀ c ∈ [SB.mkLe (.lit 0) i, SB.mkLt i (SI.mkNat len), SB.mkLe (.lit 0) off], c.den ν = true) → v = z ∧ 0 ≤ i.den ν ∧ i.den ν < ((len.den ν).toNat : Int) ∧ 0 ≤ off.den ν := by
      intro r v z hv h2
      obtain ⟨rfl, hc⟩ := h2 v hv
      have c1 := hc (SB.mkLe (.lit 0) i) (by simp)
      have c2 := hc (SB.mkLt i (SI.mkNat len)) (by simp)
      have c3 := hc (SB.mkLe (.lit 0) off) (by simp)
      rw [SB.mkLe_den] at c1 c3
      rw [SB.mkLt_den, SI.mkNat_den] at c2
      exact ⟨rfl, of_decide_eq_true c1, of_decide_eq_true c2, of_decide_eq_true c3⟩
    split at hl
    · rename_i hc
      have hn1 := Nat.eq_of_beq_eq_true hc
      subst hn1
      cases hl
      obtain ⟨r, hr, h1, h2⟩ := ways_den (ν := ν) (cs := [SB.mkLe (.lit 0) i, SB.mkLt i (SI.mkNat len), SB.mkLe (.lit 0) off]) (SV.ptr b (SI.mkAdd off i)) hd
      refine ⟨r, hr, h1, fun v hv => ?_⟩
      obtain ⟨rfl, c1, c2, c3⟩ := nonneg3 hv h2
      rw [key _ _ _ c1 c2]
      have e : (off.den ν).toNat + (i.den ν).toNat * 1 = (off.den ν + i.den ν).toNat := by omega
      simp only [SV.den, SI.mkAdd_den, e]
    · cases hl
      obtain ⟨r, hr, h1, h2⟩ := ways_den (ν := ν) (cs := [SB.mkLe (.lit 0) i, SB.mkLt i (SI.mkNat len), SB.mkLe (.lit 0) off]) (SV.ptr b (SI.mkAdd off (SI.mkMul i (.lit (.ofNat n))))) hd
      refine ⟨r, hr, h1, fun v hv => ?_⟩
      obtain ⟨rfl, c1, c2, c3⟩ := nonneg3 hv h2
      rw [key _ _ _ c1 c2]
      obtain ⟨q, hq⟩ : ∃ q : Nat, i.den ν = (q : Int) := ⟨(i.den ν).toNat, by omega⟩
      have e : (off.den ν).toNat + q * n = (off.den ν + (q : Int) * (n : Int)).toNat := by
        rw [← Int.natCast_mul]; omega
      simp only [SV.den, SI.mkAdd_den, SI.mkMul_den, SI.den]
      rw [hq]
      simp only [Int.toNat_natCast]
      rw [e]
      rfl

theorem forkX_den {k : SI} : ∀ (c j : Nat) {pc : PC}, pcDen ν pc → ∃ r ∈ forkX k c j pc, pcDen ν r.1 ∧ ∀ m, r.2 = some m → k.den ν = (m : Int) ∧ j ≤ m ∧ m < j + c
  | 0, j, pc, hd => ⟨([], none), by simp [forkX], pcDen_nil ν, fun m h => by cases h⟩
  | c + 1, j, pc, hd => by
    unfold forkX
    have hden : ∀ b, (SB.mkEq k (.lit (.ofNat j))).den ν = b → (b = true → k.den ν = (j : Int)) := by
      intro b hb hbt
      subst hbt
      rw [SB.mkEq_den] at hb
      simpa [SI.den] using hb
    split
    · rename_i hk
      have := hden _ (SB.known_den hd hk) rfl
      exact ⟨([], some j), by simp, pcDen_nil ν, fun m h => by cases h; exact ⟨this, by omega, by omega⟩⟩
    · obtain ⟨r, hr, h1, h2⟩ := forkX_den c (j + 1) hd
      exact ⟨r, hr, h1, fun m hm => by have := h2 m hm; exact ⟨this.1, by omega, by omega⟩⟩
    · cases hq : (SB.mkEq k (.lit (.ofNat j))).den ν with
      | true =>
        have := hden _ hq rfl
        exact ⟨_, List.mem_cons_self .., pcDen_one hq, fun m h => by cases h; exact ⟨this, by omega, by omega⟩⟩
      | false =>
        obtain ⟨r, hr, h1, h2⟩ := forkX_den c (j + 1) (pcDen_cons hq hd)
        exact ⟨_, List.mem_cons_of_mem _ (List.mem_map.2 ⟨r, hr, rfl⟩), pcDen_append h1 (pcDen_one hq), fun m hm => by have := h2 m hm; exact ⟨this.1, by omega, by omega⟩⟩

theorem copyX_run (h : HW B ν ρ hp w) {t u : Nat} {pc : PC} (hd : pcDen ν pc) {d : SV} {nl : SL} {k : IntKind} {e : Nat} {xv : Value} (hut : P.underlying t = some (.slice e)) (hue : P.underlying e = some (.int k))
    (hx : Reads w xv ((nl.den ν).map (Value.int k))) {l : List (PC × Option (SV × Heap))} (ha : copyX P pc hp t d nl = some l) (ty : TypeId) :
    ∃ r ∈ l, pcDen ν r.1 ∧ ∀ y, r.2 = some y → ∃ w', (Builtin.copy_ #[t, u] ty #[d.den ν ρ, xv]).run P w = .ok (y.1.den ν ρ) w' ∧ HW B ν ρ y.2 w' := by
  unfold copyX at ha
  rw [hut] at ha
  simp only [hue] at ha
  split at ha
  · rename_i k' b len cap hk hsz
    cases hk
    split at ha
    · rename_i bk hg
      split at ha
      · rename_i j l0 c0 ty0 har
        split at ha
        · rename_i hc
          simp only [Bool.and_eq_true] at hc
          have q1 := kBeq_eq hc.1
          have q2 := SI.beq_eq hc.2
          subst q1 q2
          obtain ⟨rest, hr, hcap, hmax⟩ := asRow_den h (hget_mem hg) har
          have hs : (P.info? e).map (·.size) = some 1 := hsz
          obtain ⟨xa, n, cx, rfl, hxl, hxr⟩ := hx
          have hn : (nl.den ν).length = n := by simpa using hxl
          -- what is written
          have key : ∀ (cs : List Int), cs = (nl.den ν).take (l0.den ν).length → ∀ (new : SL), new.den ν = cs ++ (l0.den ν).drop cs.length →
              ∃ w', (Builtin.copy_ #[t, u] ty #[(SV.sl b (.lit 0) (SI.mkLen l0) cap).den ν ρ, .slice xa n cx]).run P w = .ok (.int .i64 (cs.length : Int)) w' ∧ HW B ν ρ (hset b (.row j new c0 ty0) hp) w' := by
            intro cs hcs new hnew
            have hcl : cs.length = Nat.min n (l0.den ν).length := by rw [hcs, List.length_take, hn, Nat.min_comm]
            have hlen : (SI.mkLen l0).den ν = ((l0.den ν).length : Int) := SI.mkLen_den ν l0
            by_cases h0 : cs = []
            · subst h0
              have hrun := run_copy_none w t u ty e (some ⟨ρ b, 0, none⟩) xa (l0.den ν).length (cap.den ν).toNat n cx hut hs (by simpa using hcl.symm)
              refine ⟨w, ?_, h.turn (asRow_nores har) (hget_mem hg) rfl rfl rfl rfl (fun _ _ => rfl) ?_⟩
              · simp only [SV.den, SI.den, hlen, Int.toNat_natCast, Int.toNat_zero]
                rw [hrun]; rfl
              · simp only [BlkDen, hnew]
                refine ⟨⟨rest, by simpa using hr, by simpa using hcap, hmax⟩, fun _ => trivial⟩
            · rcases hxr with ⟨hnil, _⟩ | ⟨ad, rfl, hcell⟩
              · exfalso; apply h0; rw [hcs, List.map_eq_nil_iff.1 hnil]; simp
              · have hrun := run_copy_row P w t u ty e (ρ b) 0 (l0.den ν).length (cap.den ν).toNat ad n cx _ ty0 (cs.map (Value.int j)) hut hs hr (by simpa using hcl)
                  (fun i v hi => by
                    rw [hcs, List.getElem?_map, List.getElem?_take] at hi
                    refine hcell i v ?_
                    rw [List.getElem?_map]
                    split at hi
                    · exact hi
                    · cases hi) (by rw [List.length_map, hcl]; simp; have := Nat.min_le_right n (l0.den ν).length; simp only [Nat.min_def] at *; omega) (fun v hv => by obtain ⟨y, _, rfl⟩ := List.mem_map.1 hv; rfl)
                have hle : cs.length ≤ (l0.den ν).length := by rw [hcl]; exact Nat.min_le_right _ _
                have hcells : ((l0.den ν).map (Value.int j) ++ rest).take 0 ++ cs.map (Value.int j) ++ ((l0.den ν).map (Value.int j) ++ rest).drop (0 + (cs.map (Value.int j)).length) = (new.den ν).map (Value.int j) ++ rest := by
                  rw [hnew, Nat.zero_add, List.length_map, List.drop_append_of_le_length (by simpa using hle)]
                  simp
                refine ⟨_, ?_, h.turn (asRow_nores har) (hget_mem hg) (w' := w.setRow (ρ b) ((new.den ν).map (Value.int j) ++ rest).toArray) rfl rfl rfl (by simp) (fun q hq => setRow_other w (ρ b) q _ hq) ?_⟩
                · simp only [SV.den, SI.den, hlen, Int.toNat_natCast, Int.toNat_zero]
                  rw [hrun, ← hcells]
                  simp only [List.length_map, goInt]
                · simp only [BlkDen]
                  refine ⟨⟨rest, setRow_heap w (ρ b) _ _ ty0 _ hr, ?_, hmax⟩, fun _ => trivial⟩
                  rw [hnew, List.length_append, List.length_drop]
                  omega
          have hlen : (SI.mkLen l0).den ν = ((l0.den ν).length : Int) := SI.mkLen_den ν l0
          have hyes : (SB.mkLe (SI.mkLen nl) (SI.mkLen l0)).den ν = true → ∃ w', (Builtin.copy_ #[t, u] ty #[(SV.sl b (.lit 0) (SI.mkLen l0) cap).den ν ρ, .slice xa n cx]).run P w = .ok ((SV.int .i64 (SI.mkLen nl)).den ν ρ) w' ∧ HW B ν ρ (hset b (.row j (SL.mkApp nl (SL.mkDrop l0 (SI.mkLen nl))) c0 ty0) hp) w' := by
            intro hq
            rw [SB.mkLe_den, SI.mkLen_den, SI.mkLen_den] at hq
            have hq := of_decide_eq_true hq
            have := key (nl.den ν) (by rw [List.take_of_length_le (by omega)]) (SL.mkApp nl (SL.mkDrop l0 (SI.mkLen nl))) (by rw [SL.mkApp_den, SL.mkDrop_den, SI.mkLen_den]; simp)
            simpa [SV.den, SI.mkLen_den] using this
          have hno : (SB.mkLe (SI.mkLen nl) (SI.mkLen l0)).den ν = false → ∃ w', (Builtin.copy_ #[t, u] ty #[(SV.sl b (.lit 0) (SI.mkLen l0) cap).den ν ρ, .slice xa n cx]).run P w = .ok ((SV.int .i64 (SI.mkLen l0)).den ν ρ) w' ∧ HW B ν ρ (hset b (.row j (.take nl (SI.mkLen l0)) c0 ty0) hp) w' := by
            intro hq
            rw [SB.mkLe_den, SI.mkLen_den, SI.mkLen_den] at hq
            have hq := of_decide_eq_false hq
            have hl2 : ((nl.den ν).take (l0.den ν).length).length = (l0.den ν).length := by rw [List.length_take]; omega
            have := key _ rfl (.take nl (SI.mkLen l0)) (by rw [hl2]; simp [SL.den, SI.mkLen_den])
            rw [hl2] at this
            simpa [SV.den, SI.mkLen_den] using this
          split at ha
          · rename_i hk
            cases ha
            exact ⟨_, List.mem_singleton.2 rfl, pcDen_nil ν, fun y hy => by cases hy; exact hyes (SB.known_den hd hk)⟩
          · rename_i hk
            cases ha
            exact ⟨_, List.mem_singleton.2 rfl, pcDen_nil ν, fun y hy => by cases hy; exact hno (SB.known_den hd hk)⟩
          · cases ha
            cases hq : (SB.mkLe (SI.mkLen nl) (SI.mkLen l0)).den ν with
            | true => exact ⟨_, List.mem_cons_self .., pcDen_asm1 hq, fun y hy => by cases hy; exact hyes hq⟩
            | false => exact ⟨_, List.mem_cons_of_mem _ (List.mem_singleton.2 rfl), pcDen_asm1 hq, fun y hy => by cases hy; exact hno hq⟩
        · cases ha
      · cases ha
    · cases ha
  · cases ha
end
end Go.Sy
end
