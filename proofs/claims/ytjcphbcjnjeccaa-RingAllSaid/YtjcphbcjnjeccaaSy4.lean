import Derived.Test.YtjcphbcjnjeccaaSy3
set_option linter.unusedVariables false
set_option linter.unusedSimpArgs false
namespace Go.Sy
open Go

section
variable {P : Program} {G : Type}

theorem aggT_run {t : Nat} {b : Bool} (h : aggT P t = some b) (w : World) : (isAgg t).run P w = .ok b w := by
  unfold aggT at h
  unfold isAgg
  split at h
  · rename_i fs hu; cases h; simp [run_underlying hu]
  · rename_i n e hu; cases h; simp [run_underlying hu]
  · rename_i d h1 h2 hu
    cases h
    rw [Sem.run_bind, run_underlying hu]
    cases d <;> simp_all
  · cases h
theorem sizeT_run {t n : Nat} (h : sizeT P t = some n) (w : World) : (sizeOf t).run P w = .ok n w := by
  unfold sizeT at h
  cases hq : P.info? t with
  | none => simp [hq] at h
  | some i => simp [hq] at h; simp [sizeOf, typeInfo, hq, h]
theorem zeroT_run {t : Nat} {z : SV} (h : zeroT P t = some z) (ν : Env G) (ρ : Nat → Nat) (w : World) : (zeroValue t).run P w = .ok (z.den ν ρ) w := by
  unfold zeroT at h
  cases hq : P.info? t with
  | none => simp [hq] at h
  | some i =>
    simp only [hq, Option.bind_eq_some_iff] at h
    obtain ⟨v, hv, hz⟩ := h
    simp [zeroValue, typeInfo, hq, hv, ofV_den ν ρ hz]

variable {B : Base} {ν : Env G} {ρ : Nat → Nat} {hp : Heap} {w : World}

theorem BlkDen.row {F : Nat → Prop} {n : Nat} {cs : List SV} {ty : Nat} {ex : Bool} (h : BlkDen B ν ρ w F n (.cells cs ty ex)) :
    ∃ rest : List Value, w.heap[ρ n]? = some (.cells (denL ν ρ cs ++ rest).toArray ty (0, 0)) ∧ (ex = true → rest = []) := by
  cases ex <;> simp only [BlkDen] at h
  · obtain ⟨⟨r, hr⟩, _⟩ := h; exact ⟨r, hr, by simp⟩
  · exact ⟨[], by simpa using h.1, by simp⟩

theorem add_none (b off j : Nat) : (⟨b, off, none⟩ : Addr).add j = ⟨b, off + j, none⟩ := by
  unfold Addr.add
  split <;> simp_all

theorem cell_at {g : Nat} {l : List Value} {ty : Nat} {fz : Nat × Nat} (h : w.heap[g]? = some (.cells l.toArray ty fz)) (j : Nat) : w.cell? ⟨g, j, none⟩ = l[j]? := by
  rw [cell_of_row w g j _ ty fz h]; simp

theorem HW.row (h : HW B ν ρ hp w) {n : Nat} {cs : List SV} {ty : Nat} {ex : Bool} (hm : (n, SBk.cells cs ty ex) ∈ hp) :
    ∃ rest : List Value, w.heap[ρ n]? = some (.cells (denL ν ρ cs ++ rest).toArray ty (0, 0)) ∧ (ex = true → rest = []) := by
  obtain ⟨F, hF⟩ := h.at hm
  exact hF.row

theorem HW.ints (h : HW B ν ρ hp w) {n : Nat} {k : IntKind} {l : SL} {c : SI} {ty : Nat} (hm : (n, SBk.row k l c ty) ∈ hp) :
    ∃ rest : List Value, w.heap[ρ n]? = some (.cells ((l.den ν).map (Value.int k) ++ rest).toArray ty (0, 0)) ∧ c.den ν = ((l.den ν).length + rest.length : Nat) ∧ c.den ν ≤ 9223372036854775807 := by
  obtain ⟨F, hF⟩ := h.at hm
  simp only [BlkDen] at hF
  exact hF.1

theorem getD_some {l : List Int} {n : Nat} (h : n < l.length) : l[n]? = some (l.getD n 0) := by
  rw [List.getD_eq_getElem?_getD, List.getElem?_eq_getElem h]; rfl

theorem subOff_den {o off i : SI} (h : subOff o off = some i) : off.den ν = o.den ν + i.den ν := by
  unfold subOff at h
  split at h
  · rename_i hb; cases h; rw [SI.beq_eq hb]; simp [SI.den]
  · split at h
    · split at h
      · rename_i hb; cases h; simp only [SI.den]; rw [SI.beq_eq hb]
      · cases h
    · cases h
theorem rowOff_den {n : Nat} {o x i : SI} (h : rowOff n o x = some i) : x.den ν = o.den ν + i.den ν * n := by
  unfold rowOff at h
  split at h
  · split at h
    · rename_i hb
      simp only [Bool.and_eq_true] at hb
      cases h
      have := Nat.eq_of_beq_eq_true hb.2
      subst this
      simp only [SI.den]
      rw [SI.beq_eq hb.1]
      rfl
    · cases h
  · cases h
theorem tabOff_den {n : Nat} {o off i : SI} {j : Nat} (h : tabOff n o off = some (i, j)) : off.den ν = o.den ν + i.den ν * n + j := by
  unfold tabOff at h
  split at h
  · rename_i hb; cases h; rw [SI.beq_eq hb]; simp [SI.den]
  · split at h
    · rename_i x m _
      split at h
      · rename_i hb
        cases h
        simp only [SI.den]
        rw [SI.beq_eq hb]
        have h1 : ((m / n * n + m % n : Nat) : Int) = m := by rw [Nat.div_add_mod']
        have h2 : Int.ofNat (m / n) = ((m / n : Nat) : Int) := rfl
        have h3 : Int.ofNat m = (m : Int) := rfl
        rw [h2, h3]
        rw [Int.natCast_add, Int.natCast_mul] at h1
        omega
      · split at h
        · rename_i i' hr
          cases h
          have := rowOff_den (ν := ν) hr
          simp only [SI.den]
          rw [this]
          rfl
        · cases h
    · simp only [Option.map_eq_some_iff, Prod.mk.injEq] at h
      obtain ⟨i', hr, rfl, rfl⟩ := h
      rw [rowOff_den hr]
      simp

theorem tabX_den (g : SG) (f : Nat) (i : SI) (k : Option IntKind) : (tabX g f i k).den ν ρ = tabV ν.I (g.den ν) f (i.den ν) k := by
  cases k <;> simp [tabX, tabV, SV.den, SI.den, SB.den]
theorem tabL_get (g : SG) (i : SI) : ∀ (ks : List (Option IntKind)) (f j : Nat), (denL ν ρ (tabL g i f ks))[j]? = (ks[j]?).map (tabV ν.I (g.den ν) (f + j) (i.den ν))
  | [], f, j => by simp [tabL, denL]
  | k :: r, f, 0 => by simp [tabL, denL, tabX_den]
  | k :: r, f, j + 1 => by
    simp only [tabL, denL, List.getElem?_cons_succ]
    rw [tabL_get g i r (f + 1) j, show f + 1 + j = f + (j + 1) by omega]
theorem tabL_length (g : SG) (i : SI) : ∀ (ks : List (Option IntKind)) (f : Nat), (tabL g i f ks).length = ks.length
  | [], f => rfl
  | k :: r, f => by simp [tabL, tabL_length g i r (f + 1)]

theorem HW.kept_cell (h : HW B ν ρ hp w) {k : Nat} (hk : ¬ B.own k) (j : Nat) : w.cell? ⟨k, j, none⟩ = B.w0.cell? ⟨k, j, none⟩ := by
  have := h.kept k hk
  simp [World.cell?, this]

theorem HW.view (h : HW B ν ρ hp w) {n : Nat} {k : IntKind} {o : SI} {l : SL} (hm : (n, SBk.view k o l) ∈ hp) :
    0 ≤ o.den ν ∧ ∀ j x, (l.den ν)[j]? = some x → w.cell? ⟨ρ n, (o.den ν).toNat + j, none⟩ = some (.int k x) := by
  obtain ⟨F, hF⟩ := h.at hm
  simp only [BlkDen] at hF
  exact ⟨hF.2.2.1, fun j x hx => by rw [h.kept_cell hF.2.1]; exact hF.2.2.2 j x hx⟩
theorem HW.tab (h : HW B ν ρ hp w) {n f : Nat} {g : SG} {ks : List (Option IntKind)} {o len : SI} (hm : (n, SBk.tab f g ks o len) ∈ hp) :
    0 ≤ o.den ν ∧ ∀ (i j : Nat) k, i < (len.den ν).toNat → ks[j]? = some k → w.cell? ⟨ρ n, (o.den ν).toNat + (i * ks.length + j), none⟩ = some (tabV ν.I (g.den ν) (f + j) i k) := by
  obtain ⟨F, hF⟩ := h.at hm
  simp only [BlkDen] at hF
  exact ⟨hF.2.2.1, fun i j k hi hk => by rw [h.kept_cell hF.2.1]; exact hF.2.2.2 i j k hi hk⟩

theorem nn_find {pc : PC} (hd : pcDen ν pc) {e : SI} (h : (pcFind (.lt e (.lit 0)) pc == some false) = true) : 0 ≤ e.den ν := by
  have h2 : pcFind (.lt e (.lit 0)) pc = some false := by simpa using h
  have := pcFind_den hd h2
  have h3 := of_decide_eq_false this
  simp only [SI.den] at h3
  omega
theorem SI.nn_den {pc : PC} (hd : pcDen ν pc) : ∀ (e : SI), e.nn pc = true → 0 ≤ e.den ν
  | .lit (.ofNat n), _ => Int.natCast_nonneg n
  | .lit (.negSucc n), h => by simp [SI.nn] at h
  | .len l, _ => Int.natCast_nonneg _
  | .nat a, _ => Int.natCast_nonneg _
  | .add a b, h => by
    simp only [SI.nn, Bool.or_eq_true, Bool.and_eq_true] at h
    rcases h with ⟨h1, h2⟩ | h
    · exact Int.add_nonneg (SI.nn_den hd a h1) (SI.nn_den hd b h2)
    · exact nn_find hd h
  | .mul a b, h => by
    simp only [SI.nn, Bool.or_eq_true, Bool.and_eq_true] at h
    rcases h with ⟨h1, h2⟩ | h
    · exact Int.mul_nonneg (SI.nn_den hd a h1) (SI.nn_den hd b h2)
    · exact nn_find hd h
  | .var _, h | .sub _ _, h | .tdiv _ _, h | .tmod _ _, h | .fdiv _ _, h | .wrap _ _, h | .bits _ _ _ _, h | .nth _ _, h | .gi _ _ _ _, h => nn_find hd h

theorem loadX_run (h : HW B ν ρ hp w) {pc : PC} (hd : pcDen ν pc) {t : Nat} {p : SV} {l : List (PC × Option SV)} (hl : loadX P pc hp t p = some l) :
    ∃ x ∈ l, pcDen ν x.1 ∧ ∀ v, x.2 = some v → (Instr.loadAt t (p.den ν ρ)).run P w = .ok (v.den ν ρ) w := by
  unfold loadX at hl
  split at hl
  · rename_i b off
    split at hl
    · rename_i cs ty ex hg
      split at hl
      · rename_i off
        obtain ⟨rest, hr, _⟩ := h.row (hget_mem hg)
        split at hl
        · rename_i n ha hs
          split at hl
          · rename_i hle
            have hle' := Nat.le_of_ble_eq_true hle
            cases hl
            refine ⟨_, by simp; rfl, pcDen_nil ν, fun v hv => ?_⟩
            cases hv
            have hlen : (denL ν ρ ((cs.drop off).take n)).length = n := by rw [denL_length]; simp; omega
            have hc := run_loadCells_list (P := P) w ⟨ρ b, off, none⟩ (denL ν ρ ((cs.drop off).take n)) (fun j x hj => by
              rw [add_none, cell_at hr]
              rw [denL_take, denL_drop, List.getElem?_take] at hj
              split at hj
              · rw [List.getElem?_drop] at hj
                rw [List.getElem?_append_left]
                · exact hj
                · exact (List.getElem?_eq_some_iff.1 hj).1
              · cases hj)
            rw [hlen] at hc
            simp [SV.den, SI.den, Instr.loadAt, Instr.sureAddr, loadVar, aggT_run ha, sizeT_run hs, hc]
          · cases hl
        · rename_i ha hs
          simp only [Option.map_eq_some_iff] at hl
          obtain ⟨v, hv, rfl⟩ := hl
          refine ⟨_, by simp; rfl, pcDen_nil ν, fun u hu => ?_⟩
          cases hu
          have hc : w.cell? ⟨ρ b, off, none⟩ = some (v.den ν ρ) := by
            rw [cell_at hr, List.getElem?_append_left (by rw [denL_length]; exact (List.getElem?_eq_some_iff.1 hv).1), denL_get, hv]
            rfl
          simp [SV.den, SI.den, Instr.loadAt, Instr.sureAddr, loadVar, aggT_run ha, hc]
        · cases hl
      · cases hl
    · rename_i k l' c ty hg
      split at hl
      · rename_i kk hu
        cases hl
        obtain ⟨x, hx, h1, h2⟩ := ways_den (ν := ν) (cs := [SB.mkLe (.lit 0) off, SB.mkLt off (SI.mkLen l')]) (SV.int k (SI.mkNth l' off)) hd
        refine ⟨x, hx, h1, fun v hv => ?_⟩
        obtain ⟨rfl, hc⟩ := h2 v hv
        have c1 := hc (SB.mkLe (.lit 0) off) (by simp)
        have c2 := hc (SB.mkLt off (SI.mkLen l')) (by simp)
        rw [SB.mkLe_den] at c1
        rw [SB.mkLt_den, SI.mkLen_den] at c2
        replace c1 : (0 : Int) ≤ off.den ν := of_decide_eq_true c1
        replace c2 := of_decide_eq_true c2
        obtain ⟨rest, hr, _⟩ := h.ints (hget_mem hg)
        have hlt : (off.den ν).toNat < (l'.den ν).length := by omega
        have hcell : w.cell? ⟨ρ b, (off.den ν).toNat, none⟩ = some (.int k ((l'.den ν).getD (off.den ν).toNat 0)) := by
          rw [cell_at hr, List.getElem?_append_left (by simpa using hlt), List.getElem?_map, getD_some hlt]
          rfl
        have hagg : (isAgg t).run P w = .ok false w := by simp [isAgg, run_underlying hu]
        simp [SV.den, Instr.loadAt, Instr.sureAddr, loadVar, hagg, hcell, SI.mkNth_den]
      · cases hl
    · rename_i k o l' hg
      split at hl
      · rename_i kk i hu hsub
        cases hl
        obtain ⟨x, hx, h1, h2⟩ := ways_den (ν := ν) (cs := [SB.mkLe (.lit 0) i, SB.mkLt i (SI.mkLen l')]) (SV.int k (SI.mkNth l' i)) hd
        refine ⟨x, hx, h1, fun v hv => ?_⟩
        obtain ⟨rfl, hc⟩ := h2 v hv
        have c1 := hc (SB.mkLe (.lit 0) i) (by simp)
        have c2 := hc (SB.mkLt i (SI.mkLen l')) (by simp)
        rw [SB.mkLe_den] at c1
        rw [SB.mkLt_den, SI.mkLen_den] at c2
        replace c1 : (0 : Int) ≤ i.den ν := of_decide_eq_true c1
        replace c2 := of_decide_eq_true c2
        obtain ⟨h0, hcell⟩ := h.view (hget_mem hg)
        have hlt : (i.den ν).toNat < (l'.den ν).length := by omega
        have ho := subOff_den (ν := ν) hsub
        have ho2 : (off.den ν).toNat = (o.den ν).toNat + (i.den ν).toNat := by omega
        have hcell2 := hcell _ _ (getD_some hlt)
        have hagg : (isAgg t).run P w = .ok false w := by simp [isAgg, run_underlying hu]
        simp [SV.den, Instr.loadAt, Instr.sureAddr, loadVar, hagg, ho2, hcell2, SI.mkNth_den]
      · cases hl
    · rename_i f g ks o len hg
      split at hl
      · rename_i i j htab
        have ho := tabOff_den (ν := ν) htab
        obtain ⟨h0, hcell⟩ := h.tab (hget_mem hg)
        have hmul : ∀ (q : Nat), i.den ν = (q : Int) → i.den ν * (ks.length : Int) = ((q * ks.length : Nat) : Int) := fun q hq => by rw [hq, Int.natCast_mul]
        split at hl
        · rename_i n ha hs
          split at hl
          · rename_i hc
            simp only [Bool.and_eq_true] at hc
            have hj := Nat.eq_of_beq_eq_true hc.1
            have hn := Nat.eq_of_beq_eq_true hc.2
            subst hj hn
            cases hl
            obtain ⟨x, hx, h1, h2⟩ := ways_den (ν := ν) (cs := [SB.mkLe (.lit 0) i, SB.mkLt i len]) (SV.agg (tabL g i f ks)) hd
            refine ⟨x, hx, h1, fun v hv => ?_⟩
            obtain ⟨rfl, hc⟩ := h2 v hv
            have c1 := hc (SB.mkLe (.lit 0) i) (by simp)
            have c2 := hc (SB.mkLt i len) (by simp)
            rw [SB.mkLe_den] at c1
            rw [SB.mkLt_den] at c2
            replace c1 : (0 : Int) ≤ i.den ν := of_decide_eq_true c1
            replace c2 := of_decide_eq_true c2
            obtain ⟨q, hq⟩ : ∃ q : Nat, i.den ν = (q : Int) := ⟨(i.den ν).toNat, by omega⟩
            have ho2 : (off.den ν).toNat = (o.den ν).toNat + q * ks.length := by rw [hmul q hq] at ho; omega
            have hlc := run_loadCells_list (P := P) w ⟨ρ b, (off.den ν).toNat, none⟩ (denL ν ρ (tabL g i f ks)) (fun jj u hjj => by
              rw [tabL_get] at hjj
              cases hk : ks[jj]? with
              | none => rw [hk] at hjj; cases hjj
              | some kk =>
                rw [hk, hq] at hjj
                have := hcell q jj kk (by omega) hk
                rw [add_none, ho2, Nat.add_assoc, this]
                exact hjj)
            rw [denL_length, tabL_length] at hlc
            simp [SV.den, Instr.loadAt, Instr.sureAddr, loadVar, aggT_run ha, sizeT_run hs, hlc]
          · cases hl
        · rename_i n ha hs
          split at hl
          · rename_i k hk
            cases hl
            obtain ⟨x, hx, h1, h2⟩ := ways_den (ν := ν) (cs := [SB.mkLe (.lit 0) i, SB.mkLt i len]) (tabX g (f + j) i k) hd
            refine ⟨x, hx, h1, fun v hv => ?_⟩
            obtain ⟨rfl, hc⟩ := h2 v hv
            have c1 := hc (SB.mkLe (.lit 0) i) (by simp)
            have c2 := hc (SB.mkLt i len) (by simp)
            rw [SB.mkLe_den] at c1
            rw [SB.mkLt_den] at c2
            replace c1 : (0 : Int) ≤ i.den ν := of_decide_eq_true c1
            replace c2 := of_decide_eq_true c2
            obtain ⟨q, hq⟩ : ∃ q : Nat, i.den ν = (q : Int) := ⟨(i.den ν).toNat, by omega⟩
            have ho2 : (off.den ν).toNat = (o.den ν).toNat + (q * ks.length + j) := by rw [hmul q hq] at ho; omega
            have hcell2 := hcell q j k (by omega) hk
            simp only [SV.den, Instr.loadAt, Instr.sureAddr, loadVar, Sem.run_bind, Sem.run_pure, Result.andThen_ok, aggT_run ha]
            rw [ho2, tabX_den, hq]
            simp [hcell2]
          · cases hl
        · cases hl
      · cases hl
    · cases hl
  · cases hl

theorem cells_den (v : SV) : (v.den ν ρ).cells = (denL ν ρ v.cellsOf).toArray := by
  cases v with
  | opq i =>
    have := ν.vo i
    simp only [SV.den, SV.cellsOf, denL]
    cases hv : ν.v i <;> simp_all [Value.cells, Value.oneCell']
  | gv f g i =>
    have := ν.I.gvo f (g.den ν) (i.den ν)
    simp only [SV.den, SV.cellsOf, denL]
    cases hv : ν.I.gv f (g.den ν) (i.den ν) <;> simp_all [Value.cells, Value.oneCell']
  | osl b l c => simp only [SV.den, SV.cellsOf, denL]; split <;> simp [Value.cells]
  | _ => simp [SV.den, Value.cells, SV.cellsOf, denL]

theorem one_den {v : SV} (h : v.one = true) : (v.den ν ρ).oneCell' = true := by
  cases v with
  | opq i => exact ν.vo _
  | gv f g i => exact ν.I.gvo _ _ _
  | osl b l c => simp only [SV.den]; split <;> rfl
  | _ => simp_all [SV.one, SV.den, Value.oneCell']

theorem splice_den (cs : List SV) (off : Nat) (vs : List SV) : denL ν ρ (splice cs off vs) = splice (denL ν ρ cs) off (denL ν ρ vs) := by
  simp [splice, denL_append, denL_take, denL_drop, denL_length]

theorem splice_append {α : Type} (cs rest : List α) (off : Nat) (vs : List α) (h : off + vs.length ≤ cs.length) : splice (cs ++ rest) off vs = splice cs off vs ++ rest := by
  unfold splice
  rw [List.take_append_of_le_length (by omega), List.drop_append_of_le_length h]
  simp

theorem set_splice (l : List Int) (k : IntKind) (rest : List Value) (n : Nat) (x : Int) (h : n < l.length) :
    splice (l.map (Value.int k) ++ rest) n [Value.int k x] = (l.set n x).map (Value.int k) ++ rest := by
  rw [splice_append _ _ _ _ (by simp; omega)]
  congr 1
  unfold splice
  apply List.ext_getElem?
  intro j
  simp only [List.getElem?_append, List.getElem?_take, List.getElem?_drop, List.length_take, List.length_append, List.length_map, List.getElem?_map, List.getElem?_set, List.length_cons, List.length_nil]
  have hm : min n l.length = n := by omega
  rw [hm]
  by_cases h1 : j < n
  · have h2 : j < n + (0 + 1) := by omega
    have h5 : ¬ n = j := by omega
    have h6 : j < l.length := by omega
    simp [h1, h2, h5, h6]
  · by_cases h2 : j = n
    · subst h2
      simp [h]
    · have h3 : ¬ j < n + (0 + 1) := by omega
      have h4 : n + (0 + 1) + (j - (n + (0 + 1))) = j := by omega
      have h5 : ¬ n = j := by omega
      simp only [h3, if_false, h4, h5]

theorem storeX_run (h : HW B ν ρ hp w) {pc : PC} (hd : pcDen ν pc) {t : Nat} {p v : SV} {l : List (PC × Option Heap)} (hl : storeX P pc hp t p v = some l) :
    ∃ x ∈ l, pcDen ν x.1 ∧ ∀ hp', x.2 = some hp' → ∃ w', (Instr.storeAt t (p.den ν ρ) (v.den ν ρ)).run P w = .ok () w' ∧ HW B ν ρ hp' w' := by
  unfold storeX at hl
  split at hl
  · rename_i b off
    split at hl
    · rename_i cs ty ex hg
      split at hl
      · rename_i off
        split at hl
        · rename_i n hs
          split at hl
          · rename_i hc
            simp only [Bool.and_eq_true] at hc
            obtain ⟨⟨hn, hle⟩, hone⟩ := hc
            have hn := Nat.eq_of_beq_eq_true hn
            have hle := Nat.le_of_ble_eq_true hle
            cases hl
            refine ⟨_, by simp; rfl, pcDen_nil ν, fun hp' hv => ?_⟩
            cases hv
            obtain ⟨rest, hr, hex⟩ := h.row (hget_mem hg)
            have hst := run_storeCells_at P (ρ b) off ty (denL ν ρ v.cellsOf) 0 (denL ν ρ cs ++ rest).toArray w hr (by simp [denL_length]; omega) (fun x hx => by
              rw [denL_eq] at hx
              obtain ⟨y, hy, rfl⟩ := List.mem_map.1 hx
              exact one_den (List.all_eq_true.1 hone y hy))
            refine ⟨w.setRow (ρ b) (splice (denL ν ρ cs ++ rest) off (denL ν ρ v.cellsOf)).toArray, ?_, ?_⟩
            · have hsz : (v.den ν ρ).cells.size = n := by rw [cells_den]; simp [denL_length, hn]
              simp only [SV.den, SI.den, Instr.storeAt, Instr.sureAddr, storeVar, Sem.run_bind, Sem.run_pure, Result.andThen_ok, sizeT_run hs, Sem.run_ite, hsz, ne_eq, not_true_eq_false, if_false]
              rw [cells_den]
              simp only [Nat.add_zero] at hst
              simpa [splice] using hst
            · have hrow := setRow_heap w (ρ b) _ (splice (denL ν ρ cs ++ rest) off (denL ν ρ v.cellsOf)).toArray ty _ hr
              refine h.turn (by exact trivial) (hget_mem hg) (w' := w.setRow (ρ b) (splice (denL ν ρ cs ++ rest) off (denL ν ρ v.cellsOf)).toArray) rfl rfl rfl (by simp) (fun k hk => setRow_other w (ρ b) k _ hk) ?_
              rw [splice_append _ _ _ _ (by simp [denL_length]; omega)] at hrow ⊢
              cases ex
              · simp only [BlkDen]; exact ⟨⟨rest, by rw [splice_den]; exact hrow⟩, by simp⟩
              · simp only [BlkDen]; rw [splice_den]; rw [hex rfl] at hrow ⊢; exact ⟨by simpa using hrow, by simp⟩
          · cases hl
        · cases hl
      · cases hl
    · rename_i k l' c ty hg
      split at hl
      · rename_i j e hs
        split at hl
        · rename_i hk
          have hk := kBeq_eq hk
          subst hk
          cases hl
          obtain ⟨x, hx, h1, h2⟩ := ways_den (ν := ν) (cs := [SB.mkLe (.lit 0) off, SB.mkLt off (SI.mkLen l')]) (hset b (.row j (.mkSet l' off e) c ty) hp) hd
          refine ⟨x, hx, h1, fun hp' hv => ?_⟩
          obtain ⟨rfl, hc⟩ := h2 hp' hv
          have c1 := hc (SB.mkLe (.lit 0) off) (by simp)
          have c2 := hc (SB.mkLt off (SI.mkLen l')) (by simp)
          rw [SB.mkLe_den] at c1
          rw [SB.mkLt_den, SI.mkLen_den] at c2
          replace c1 : (0 : Int) ≤ off.den ν := of_decide_eq_true c1
          replace c2 := of_decide_eq_true c2
          obtain ⟨rest, hr, hcap⟩ := h.ints (hget_mem hg)
          have hlt : (off.den ν).toNat < (l'.den ν).length := by omega
          have hst := run_storeCells_at P (ρ b) (off.den ν).toNat ty [Value.int j (e.den ν)] 0 _ w hr (by simp; omega) (fun x hx => by simp at hx; subst hx; rfl)
          have hsp := set_splice (l'.den ν) j rest (off.den ν).toNat (e.den ν) hlt
          refine ⟨w.setRow (ρ b) (splice ((l'.den ν).map (Value.int j) ++ rest) (off.den ν).toNat [Value.int j (e.den ν)]).toArray, ?_, ?_⟩
          · simp only [SV.den, Instr.storeAt, Instr.sureAddr, storeVar, Sem.run_bind, Sem.run_pure, Result.andThen_ok, sizeT_run hs, Sem.run_ite, Value.cells, List.size_toArray, List.length_cons, List.length_nil, Nat.zero_add, ne_eq, not_true_eq_false, if_false]
            simp only [Nat.add_zero] at hst
            simpa [splice] using hst
          · have hrow := setRow_heap w (ρ b) _ (splice ((l'.den ν).map (Value.int j) ++ rest) (off.den ν).toNat [Value.int j (e.den ν)]).toArray ty _ hr
            refine h.turn (by exact trivial) (hget_mem hg) rfl rfl rfl (by simp) (fun k hk => setRow_other w (ρ b) k _ hk) ?_
            rw [hsp] at hrow ⊢
            simp only [BlkDen, SL.mkSet_den]
            exact ⟨⟨rest, hrow, by simpa using hcap.1, hcap.2⟩, by simp⟩
        · cases hl
      · cases hl
    · cases hl
  · cases hl
end
end Go.Sy
