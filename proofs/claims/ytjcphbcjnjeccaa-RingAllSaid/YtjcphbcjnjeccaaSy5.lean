import Derived.Test.YtjcphbcjnjeccaaSy4
set_option linter.unusedVariables false
set_option linter.unusedSimpArgs false
namespace Go.Sy
open Go

section
variable {P : Program} {G : Type} {ν : Env G} {ρ : Nat → Nat}

/-! ### build -/
theorem foldl_splice (off : Nat) : ∀ (l : List Value) (k : Nat) (cells : Array Value), off + k + l.length ≤ cells.size →
    (l.zipIdx k).foldl (fun cs (x : Value × Nat) => cs.setIfInBounds (off + x.2) x.1) cells = (splice cells.toList (off + k) l).toArray
  | [], k, cells, _ => by simp [splice]
  | v :: l, k, cells, h => by
    simp only [List.length_cons] at h
    simp only [List.zipIdx_cons, List.foldl_cons]
    rw [foldl_splice off l (k + 1) (cells.setIfInBounds (off + k) v) (by simp; omega)]
    congr 1
    unfold splice
    have hk : off + k < cells.toList.length := by simp; omega
    simp only [Array.toList_setIfInBounds, List.length_cons]
    apply List.ext_getElem?
    intro j
    simp only [List.getElem?_append, List.getElem?_take, List.getElem?_drop, List.getElem?_set, List.length_take, List.length_set, List.length_append, List.length_cons]
    have h1 : min (off + (k + 1)) cells.toList.length = off + (k + 1) := by omega
    have h2 : min (off + k) cells.toList.length = off + k := by omega
    rw [h1, h2]
    by_cases c1 : j < off + k
    · have : j < off + (k + 1) := by omega
      have h3 : j < off + (k + 1) + l.length := by omega
      have h4 : j < off + k + (l.length + 1) := by omega
      simp [c1, this, h3, h4]; omega
    · by_cases c2 : j = off + k
      · subst c2
        have h3 : off + k < off + (k + 1) := by omega
        have h4 : off + k < off + (k + 1) + l.length := by omega
        have h5 : off + k < cells.size := by simpa using hk
        simp [h3, h4, h5]
      · have h3 : ¬ j < off + (k + 1) := by omega
        by_cases c3 : j < off + (k + 1) + l.length
        · have h4 : j < off + k + (l.length + 1) := by omega
          have h5 : j - (off + k) = (j - (off + (k + 1))) + 1 := by omega
          simp [c1, h3, c3, h4, h5]
        · have h4 : ¬ j < off + k + (l.length + 1) := by omega
          have h5 : ¬ off + k = off + (k + 1) + l.length + (j - (off + (k + 1) + l.length)) := by omega
          have h6 : off + (k + 1) + l.length + (j - (off + (k + 1) + l.length)) = off + k + (l.length + 1) + (j - (off + k + (l.length + 1))) := by omega
          rw [if_neg c3, if_neg h4, if_neg (by omega), h6]

def denP (ν : Env G) (ρ : Nat → Nat) (l : List (Nat × SV)) : List (Nat × Value) := l.map fun x => (x.1, x.2.den ν ρ)

theorem fillX_den (place : Nat → Option (Nat × Nat)) : ∀ (parts : List (Nat × SV)) (cells cs : List SV), fillX place cells parts = some cs →
    Instr.fill place (denL ν ρ cells).toArray (denP ν ρ parts) = some (denL ν ρ cs).toArray
  | [], cells, cs, h => by simp only [fillX, Option.some.injEq] at h; subst h; simp [Instr.fill, denP]
  | (i, v) :: rest, cells, cs, h => by
    unfold fillX at h
    simp only [denP, List.map_cons, Instr.fill]
    split at h
    · cases h
    · rename_i off size hp
      split at h
      · rename_i hc
        simp only [Bool.and_eq_true] at hc
        have h1 := Nat.eq_of_beq_eq_true hc.1
        have h2 := Nat.le_of_ble_eq_true hc.2
        have hs : (v.den ν ρ).cells.size = v.cellsOf.length := by rw [cells_den]; simp [denL_length]
        have hcond : ((v.den ν ρ).cells.size ≠ size || decide (off + (v.den ν ρ).cells.size > (denL ν ρ cells).toArray.size)) = false := by
          simp [hs, h1, denL_length]; omega
        simp only [hp]
        rw [if_neg (by rw [hs]; simp only [List.size_toArray, denL_length, ne_eq, Bool.or_eq_true, decide_eq_true_eq, not_or]; omega)]
        have hf := foldl_splice off (denL ν ρ v.cellsOf) 0 (denL ν ρ cells).toArray (by simp [denL_length]; omega)
        have := fillX_den place rest _ cs h
        rw [splice_den] at this
        rw [cells_den]
        simp only [Nat.add_zero] at hf
        rw [← this]
        congr 1
        rw [← Array.foldl_toList]
        simp only [Array.toList_zipIdx]
        exact hf
      · cases h

theorem placesT_mapM : ∀ (fs : List Field) (ps : List (Nat × Nat)), placesT P fs = some ps → fs.mapM (fun f => (P.info? f.type).map fun i => (f.offset, i.size)) = some ps
  | [], ps, h => by simp only [placesT, Option.some.injEq] at h; subst h; rfl
  | f :: fs, ps, h => by
    unfold placesT at h
    split at h
    · rename_i n r hn hr
      cases h
      unfold sizeT at hn
      simp only [Option.map_eq_some_iff] at hn
      obtain ⟨i, hi, rfl⟩ := hn
      simp [List.mapM_cons, hi, placesT_mapM fs r hr]
    · cases h

theorem evalP_den {fr : List SV} {a : Act} (h : FR ν ρ fr a) : ∀ {ps : List (Nat × Operand)} {parts : List (Nat × SV)}, evalP fr ps = some parts → ps.map (fun x => (x.1, a.eval x.2)) = denP ν ρ parts
  | [], parts, hx => by simp only [evalP, Option.some.injEq] at hx; subst hx; rfl
  | (i, x) :: xs, parts, hx => by
    unfold evalP at hx
    split at hx
    · rename_i v vs hv hvs
      cases hx
      have := evalP_den h hvs
      simp only [denP] at this
      simp [denP, h.eval hv, this]
    · cases hx

theorem zeroT_info {t : Nat} {z : SV} (h : zeroT P t = some z) : ∃ i v, P.info? t = some i ∧ i.zero = some v ∧ v = z.den ν ρ := by
  unfold zeroT at h
  split at h
  · rename_i i hi
    simp only [Option.bind_eq_some_iff] at h
    obtain ⟨v, hv, hz⟩ := h
    exact ⟨i, v, hi, hv, (ofV_den ν ρ hz).symm⟩
  · cases h

theorem buildX_run {t : Nat} {parts : List (Nat × SV)} {v : SV} (h : buildX P t parts = some v) (w : World) :
    (Instr.build t (denP ν ρ parts).toArray).run P w = .ok (v.den ν ρ) w := by
  unfold buildX at h
  split at h
  · rename_i z fs hz hu
    split at h
    · rename_i ps hps
      simp only [Option.map_eq_some_iff] at h
      obtain ⟨cs, hcs, rfl⟩ := h
      obtain ⟨i, zv, hi, hzv, rfl⟩ := zeroT_info (ν := ν) (ρ := ρ) hz
      refine run_build w t _ _ ?_
      unfold Program.built
      simp only [hi, hu, hzv, placesT_mapM _ _ hps]
      rw [cells_den]
      have := fillX_den (ν := ν) (ρ := ρ) (fun i => ps[i]?) parts _ cs hcs
      simpa using this
    · cases h
  · rename_i z n e hz hu
    split at h
    · rename_i m hm
      simp only [Option.map_eq_some_iff] at h
      obtain ⟨cs, hcs, rfl⟩ := h
      obtain ⟨i, zv, hi, hzv, rfl⟩ := zeroT_info (ν := ν) (ρ := ρ) hz
      unfold sizeT at hm
      simp only [Option.map_eq_some_iff] at hm
      obtain ⟨ie, hie, rfl⟩ := hm
      refine run_build w t _ _ ?_
      unfold Program.built
      simp only [hi, hu, hzv, hie]
      rw [cells_den]
      have := fillX_den (ν := ν) (ρ := ρ) _ parts _ cs hcs
      simpa using this
    · cases h
  · cases h

theorem repL_get (l : List SV) : ∀ (n i : Nat), i < n * l.length → (repL n l)[i]? = l[i % l.length]?
  | 0, i, h => by simp at h
  | n + 1, i, h => by
    unfold repL
    by_cases hi : i < l.length
    · rw [List.getElem?_append_left hi, Nat.mod_eq_of_lt hi]
    · rw [List.getElem?_append_right (by omega), repL_get l n (i - l.length) (by rw [Nat.succ_mul] at h; omega)]
      rw [← Nat.mod_eq_sub_mod (by omega)]
theorem repL_length (l : List SV) : ∀ n, (repL n l).length = n * l.length
  | 0 => by simp [repL]
  | n + 1 => by simp [repL, repL_length l n, Nat.succ_mul]; omega

theorem List.getElem?_range_eq (n i : Nat) : (List.range n)[i]? = if i < n then some i else none := by
  by_cases h : i < n
  · simp [h]
  · rw [List.getElem?_eq_none (by simp; omega), if_neg h]
theorem range_rep (z : SV) (len n : Nat) (hn : z.cellsOf.length = n) (h1 : 1 ≤ n) :
    (Array.range (len * n)).map (fun i => (z.den ν ρ).cells[i % (z.den ν ρ).cells.size]!) = (denL ν ρ (repL len z.cellsOf)).toArray := by
  apply Array.ext'
  simp only [Array.toList_map, Array.toList_range]
  apply List.ext_getElem?
  intro i
  rw [List.getElem?_map, List.getElem?_range_eq]
  rw [cells_den, denL_get]
  simp only [List.size_toArray, denL_length, hn]
  by_cases hi : i < len * n
  · rw [repL_get _ _ _ (by rw [hn]; exact hi), hn]
    have hm : i % n < z.cellsOf.length := by rw [hn]; exact Nat.mod_lt _ (by omega)
    simp only [hi, if_true, Option.map_some, List.getElem?_eq_getElem hm]
    congr 1
    have hm2 : i % n < (denL ν ρ z.cellsOf).length := by rw [denL_length]; exact hm
    rw [getElem!_pos _ _ (by simpa using hm2)]
    have := denL_get (ν := ν) (ρ := ρ) z.cellsOf (i % n)
    rw [List.getElem?_eq_getElem hm2, List.getElem?_eq_getElem hm] at this
    simpa using this
  · have : ¬ i < (repL len z.cellsOf).length := by rw [repL_length, hn]; exact hi
    simp [hi, List.getElem?_eq_none (Nat.le_of_not_lt this)]

theorem buildSliceX_run {t len : Nat} {parts : List (Nat × SV)} {cs : List SV} {e : Nat} (h : buildSliceX P t len parts = some (cs, e)) (w : World) :
    (Instr.buildSlice t len (denP ν ρ parts).toArray).run P w = .ok (.slice (some ⟨w.heap.size, 0, none⟩) len len) (w.alloc (.cells (denL ν ρ cs).toArray e)) := by
  unfold buildSliceX at h
  split at h
  · rename_i e' hu
    split at h
    · rename_i n z hn hz
      split at h
      · rename_i hc
        simp only [Bool.and_eq_true] at hc
        have h1 := Nat.le_of_ble_eq_true hc.1.1
        have h2 := Nat.le_of_ble_eq_true hc.1.2
        have h3 := Nat.eq_of_beq_eq_true hc.2
        simp only [Option.map_eq_some_iff, Prod.mk.injEq] at h
        obtain ⟨cs', hcs, rfl, rfl⟩ := h
        have hf := fillX_den (ν := ν) (ρ := ρ) (fun i => some (i * n, n)) parts _ _ hcs
        have hr := range_rep (ν := ν) (ρ := ρ) z len n h3 h2
        have hbig : ¬ (len * n > 2 ^ 24) := by omega
        simp only [Instr.buildSlice, Sem.run_bind, run_underlying hu, Result.andThen_ok, sizeT_run hn, Sem.run_ite, hbig, if_false, Sem.run_pure]
        by_cases h0 : len * n = 0
        · have hnil : repL len z.cellsOf = [] := List.eq_nil_of_length_eq_zero (by rw [repL_length, h3]; exact h0)
          rw [hnil] at hf
          simp only [denL] at hf
          have hrg : Array.range 0 = #[] := rfl
          simp only [h0, if_true, hrg, Array.map_empty]
          simp [hf, newRow]
        · simp only [h0, if_false, Sem.run_bind, zeroT_run hz ν ρ, Result.andThen_ok, Sem.run_pure]
          rw [hr]
          simp [hf, newRow]
      · cases h
    · cases h
  · cases h
end
end Go.Sy
