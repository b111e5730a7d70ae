import Derived.Test.YtjcphbcjnjeccaaSy7
import Derived.Lib.AppendZerosOnto
set_option linter.unusedVariables false
set_option linter.unusedSimpArgs false
namespace Go.Sy
open Go

section
variable {P : Program} {G : Type} {ν : Env G} {ρ : Nat → Nat} {B : Base} {hp : Heap} {w : World}

theorem own_at (h : HW B ν ρ hp w) {b : Nat} {bk : SBk} (hg : (b, bk) ∈ hp) (hc : NoRes bk) : B.own (ρ b) := by
  obtain ⟨F, h1, h2, _⟩ := h.foot
  exact h2 b bk _ hg ((BlkDen.single hc (h1 b bk hg) _).2 rfl)

theorem asRow_nores {bk : SBk} {k : IntKind} {l : SL} {c : SI} {ty : Nat} (ha : asRow P bk = some (k, l, c, ty)) : NoRes bk := by
  unfold asRow at ha
  split at ha
  · trivial
  · trivial
  · cases ha

theorem toSL_av {lo hi : Nat} {k : IntKind} : ∀ {cs : List SV} {l : SL}, toSL k cs = some l → avL lo hi cs = true → l.av lo hi = true
  | [], l, h, _ => by simp only [toSL, Option.some.injEq] at h; subst h; rfl
  | .int j e :: r, l, h, hv => by
    unfold toSL at h
    split at h
    · simp only [Option.map_eq_some_iff] at h
      obtain ⟨l', hl, rfl⟩ := h
      simp only [avL, SV.av, Bool.and_eq_true] at hv
      simp only [SL.av, Bool.and_eq_true]
      exact ⟨hv.1, toSL_av hl hv.2⟩
    · cases h
  | .bool _ :: _, _, h, _ | .gv _ _ _ :: _, _, h, _ | .osl _ _ _ :: _, _, h, _ | .ptr _ _ :: _, _, h, _ | .nilPtr :: _, _, h, _ | .nilFunc :: _, _, h, _ | .fn _ _ _ :: _, _, h, _ | .nilSl :: _, _, h, _ | .emp _ :: _, _, h, _ | .dead :: _, _, h, _ | .sl _ _ _ _ :: _, _, h, _ | .opq _ :: _, _, h, _ | .agg _ :: _, _, h, _ | .tup _ :: _, _, h, _ => by simp [toSL] at h

theorem asRow_av {lo hi : Nat} {bk : SBk} {k : IntKind} {l : SL} {c : SI} {ty : Nat} (ha : asRow P bk = some (k, l, c, ty)) (hv : bk.av lo hi = true) : l.av lo hi = true := by
  unfold asRow at ha
  split at ha
  · cases ha; simp only [SBk.av, Bool.and_eq_true] at hv; exact hv.1
  · split at ha
    · split at ha
      · simp only [Option.map_eq_some_iff, Prod.mk.injEq] at ha
        obtain ⟨l', hl, _, rfl, _, _⟩ := ha
        exact toSL_av hl hv
      · cases ha
    · cases ha
  · cases ha

/-- A row in the place of block b, under a new name. -/
theorem HW.rename (h : HW B ν ρ hp w) {b nm : Nat} {bk : SBk} (hg : (b, bk) ∈ hp) (hc : NoRes bk) (hav' : hav nm (nm + 1) hp = true) {x : Int} {b' : SBk} {w' : World}
    (ho : w'.os = w.os) (ht : w'.tape = w.tape) (hu : w'.output = w.output) (hs : w'.heap.size = w.heap.size) (hk : ∀ k, k ≠ ρ b → w'.heap[k]? = w.heap[k]?)
    (hb : BlkDen B (ν.updI nm x) (upd ρ nm (ρ b)) w' (fun j => j = ρ b) nm b') : HW B (ν.updI nm x) (upd ρ nm (ρ b)) (hadd nm b' (herase b hp)) w' := by
  have he : HW B ν ρ (herase b hp) w := h.sub
  have hown := own_at h hg hc
  refine he.put (agree_updI nm (ρ b) x) (hav_erase hav') ho ht hu (by omega) hown ?_ (fun j hj _ => hk j hj) hb (fun j hj => hk j (fun e => hj (e ▸ hown)))
  obtain ⟨F, h1, h2, h3⟩ := h.foot
  refine ⟨F, fun n c hm => h1 n c (herase_mem.1 hm).1, fun n c k hm => h2 n c k (herase_mem.1 hm).1, fun n c m d k hm hm' => h3 n c m d k (herase_mem.1 hm).1 (herase_mem.1 hm').1, fun n c hm hF => ?_⟩
  exact (herase_mem.1 hm).2 (h3 n c b bk (ρ b) (herase_mem.1 hm).1 hg hF ((BlkDen.single hc (h1 b bk hg) _).2 rfl))

theorem map_take_append (l m : List Int) (k : IntKind) (rest : List Value) :
    ((l.map (Value.int k) ++ rest).take l.length ++ m.map (Value.int k) ++ (l.map (Value.int k) ++ rest).drop (l.length + m.length)) = (l ++ m).map (Value.int k) ++ rest.drop m.length := by
  rw [List.take_append_of_le_length (by simp), List.take_of_length_le (by simp)]
  rw [List.drop_append]
  simp

theorem firstCells_empty (n : Nat) (a : Option Addr) (c : Nat) (w : World) : (Builtin.firstCells n 0 (.slice a 0 c)).run P w = .ok #[] w := by
  cases a <;> simp [Builtin.firstCells, loadCells, loadCellsFrom]

/-- append onto a row, and onto nil: what memory holds then. -/
theorem row_append {t e ty : Nat} {inf : TypeInfo} {z : Value} (hut : P.underlying t = some (.slice e)) (hi : P.info? e = some inf) (hz : inf.zero = some z) (hsize : inf.size = 1) (hby : inf.bytes ≤ 64) (hz1 : z.cells.size = 1)
    {g : Nat} {k : IntKind} {l m : List Int} {rest : List Value} {te : Nat} (hr : w.heap[g]? = some (.cells (l.map (Value.int k) ++ rest).toArray te (0, 0))) (hte : te = e) {c : Nat} (hc : c = l.length + rest.length) (hmax : (c : Int) ≤ 9223372036854775807)
    {xv : Value} (hx : Reads w xv (m.map (Value.int k))) (hsm : l.length + m.length < 1099511627776) :
    ∃ g' c' rest' w', (Builtin.append_ #[t, t] ty #[.slice (some ⟨g, 0, none⟩) l.length c, xv]).run P w = .ok (.slice (some ⟨g', 0, none⟩) (l.length + m.length) c') w' ∧
      w'.heap[g']? = some (.cells ((l ++ m).map (Value.int k) ++ rest').toArray e (0, 0)) ∧ c' = l.length + m.length + rest'.length ∧ (c' : Int) ≤ 9223372036854775807 ∧
      ((g' = g ∧ w'.os = w.os ∧ w'.tape = w.tape ∧ w'.output = w.output ∧ w'.heap.size = w.heap.size ∧ ∀ j, j ≠ g → w'.heap[j]? = w.heap[j]?) ∨ (g' = w.heap.size ∧ ∃ o, w' = w.drew.alloc o)) := by
  subst hte
  obtain ⟨xa, n, cx, rfl, hxl, hxr⟩ := hx
  have hn : m.length = n := by simpa using hxl
  subst hn
  by_cases h0 : m = []
  · subst h0
    refine ⟨g, c, rest, w, ?_, by simpa using hr, by simpa using hc, hmax, .inl ⟨rfl, rfl, rfl, rfl, rfl, fun _ _ => rfl⟩⟩
    have : l.length ≤ c := by omega
    simp [Builtin.append_, run_underlying hut, sizeOf, typeInfo, hi, Builtin.lenOf, firstCells_empty, this, storeCells]
  · rcases hxr with ⟨hnil, _⟩ | ⟨ad, rfl, hcell⟩
    · exact absurd (List.map_eq_nil_iff.1 hnil) h0
    · by_cases hroom : l.length + m.length ≤ c
      · have hrun := run_append_room (P := P) w t ty te inf hut hi g l.length c _ hr ad m.length cx (m.map (Value.int k)) (by simp [hsize]) hcell (fun u hu => by obtain ⟨y, _, rfl⟩ := List.mem_map.1 hu; rfl) hroom (by simp [hsize]; omega)
        have hta := map_take_append l m k rest
        simp only [List.length_map, hsize, Nat.mul_one, hta] at hrun
        refine ⟨g, c, rest.drop m.length, w.setRow g ((l ++ m).map (Value.int k) ++ rest.drop m.length).toArray, ?_, ?_, by simp; omega, hmax, .inl ⟨rfl, rfl, rfl, rfl, by simp, fun j hj => setRow_other w g j _ hj⟩⟩
        · exact hrun
        · rw [setRow_heap w g _ _ te _ hr]
      · have hge := grownCap_ge w (l.length + m.length) c te
        have hrun := run_append_grow (P := P) w t ty te inf z hut hi hz ⟨g, 0, none⟩ l.length c (l.map (Value.int k)) (by simp [hsize]) (fun j u hu => by
            rw [add_none, cell_at hr, Nat.zero_add, List.getElem?_append_left (List.getElem?_eq_some_iff.1 hu).1]; exact hu) ad m.length cx (m.map (Value.int k)) (by simp [hsize]) hcell (by omega) (by omega)
          (growslice_fits (by omega) (by
            have : (l.length + m.length) * inf.bytes ≤ 1099511627776 * 64 := Nat.mul_le_mul (by omega) hby
            omega))
        refine ⟨w.heap.size, grownCap w (l.length + m.length) c te, (Builtin.zeroCells z.cells (grownCap w (l.length + m.length) c te - (l.length + m.length))).toList, _, hrun, ?_, ?_, ?_, .inr ⟨rfl, _, rfl⟩⟩
        · rw [show w.heap.size = w.drew.heap.size from rfl, heap_alloc_new w.drew]
          congr 2
          apply Array.ext'
          simp
        · simp [size_zeroCells, hz1]; omega
        · have := grownCap_le_maxLen w (l.length + m.length) c te (by simp only [maxLen]; omega)
          simp only [maxLen] at this
          omega

theorem nil_append {t e ty : Nat} {inf : TypeInfo} {z : Value} (hut : P.underlying t = some (.slice e)) (hi : P.info? e = some inf) (hz : inf.zero = some z) (hsize : inf.size = 1) (hby : inf.bytes ≤ 64) (hz1 : z.cells.size = 1)
    {k : IntKind} {m : List Int} {xv : Value} (hx : Reads w xv (m.map (Value.int k))) (hsm : m.length < 1099511627776) (hm : 0 < m.length) :
    ∃ c' rest' o, (Builtin.append_ #[t, t] ty #[.slice none 0 0, xv]).run P w = .ok (.slice (some ⟨w.heap.size, 0, none⟩) m.length c') (w.drew.alloc o) ∧
      (w.drew.alloc o).heap[w.heap.size]? = some (.cells (m.map (Value.int k) ++ rest').toArray e (0, 0)) ∧ c' = m.length + rest'.length ∧ (c' : Int) ≤ 9223372036854775807 := by
  obtain ⟨xa, n, cx, rfl, hxl, hxr⟩ := hx
  have hn : m.length = n := by simpa using hxl
  subst hn
  rcases hxr with ⟨hnil, _⟩ | ⟨ad, rfl, hcell⟩
  · rw [List.map_eq_nil_iff.1 hnil] at hm; cases hm
  · have hge := grownCap_ge w m.length 0 e
    have hrun := run_append_nil (P := P) w t ty e inf z hut hi hz ad m.length cx (m.map (Value.int k)) (by simp [hsize]) hcell (by omega) (by omega) (by
      have : m.length * inf.bytes ≤ 1099511627776 * 64 := Nat.mul_le_mul (by omega) hby
      omega)
    refine ⟨grownCap w m.length 0 e, (Builtin.zeroCells z.cells (grownCap w m.length 0 e - m.length)).toList, _, hrun, ?_, ?_, ?_⟩
    · rw [show w.heap.size = w.drew.heap.size from rfl, heap_alloc_new w.drew]
      congr 2
      apply Array.ext'
      simp
    · simp [size_zeroCells, hz1]; omega
    · have := grownCap_le_maxLen w m.length 0 e (by simp only [maxLen]; omega)
      simp only [maxLen] at this
      omega

theorem nil_append_nil {t e ty : Nat} {inf : TypeInfo} (hut : P.underlying t = some (.slice e)) (hi : P.info? e = some inf) {xv : Value} (hx : Reads w xv []) :
    (Builtin.append_ #[t, t] ty #[.slice none 0 0, xv]).run P w = .ok (.slice none 0 0) w := by
  obtain ⟨xa, n, cx, rfl, hxl, hxr⟩ := hx
  have hn0 : n = 0 := by simpa using hxl.symm
  subst hn0
  simp [Builtin.append_, run_underlying hut, sizeOf, typeInfo, hi, Builtin.lenOf, firstCells_empty]

theorem zero_one (ν : Env G) (ρ : Nat → Nat) {e : Nat} {inf : TypeInfo} (z : SV) (hz : zeroT P e = some z) (h1 : z.cellsOf.length = 1) (hi : P.info? e = some inf) : ∃ zv, inf.zero = some zv ∧ zv.cells.size = 1 := by
  obtain ⟨i, zv, hi', hzv, hzd⟩ := zeroT_info (ν := ν) (ρ := ρ) hz
  have hii : inf = i := Option.some.inj (hi.symm.trans hi')
  subst hii
  refine ⟨zv, hzv, ?_⟩
  rw [hzd, cells_den]
  simp [denL_length, h1]

theorem appendR_run (h : HW B ν ρ hp w) {nm t : Nat} {pc : PC} (hd : pcDen ν pc) {s : SV} {nl : SL} {k : IntKind} {e : Nat} {xv : Value} (hut : P.underlying t = some (.slice e)) (hue : P.underlying e = some (.int k))
    (hx : Reads w xv ((nl.den ν).map (Value.int k))) {l : List (PC × Option (SV × Heap))} (ha : appendR P nm pc hp t s nl = some l) (ty : TypeId) :
    ∃ r ∈ l, ∃ ν' ρ', Agree nm (nm + 1) ν ν' ρ ρ' ∧ pcDen ν r.1 ∧ ∀ y, r.2 = some y → ∃ w', (Builtin.append_ #[t, t] ty #[s.den ν ρ, xv]).run P w = .ok (y.1.den ν' ρ') w' ∧ HW B ν' ρ' y.2 w' := by
  unfold appendR at ha
  rw [hut] at ha
  simp only [hue] at ha
  split at ha
  · rename_i k' inf z hk hsz hinf hz
    cases hk
    have hsize : inf.size = 1 := by unfold sizeT at hsz; rw [hinf] at hsz; simpa using hsz
    split at ha
    · rename_i hby
      simp only [Bool.and_eq_true] at hby
      have hby1 := Nat.le_of_ble_eq_true hby.1.1
      have hzl := Nat.eq_of_beq_eq_true hby.2
      obtain ⟨zv, hzv, hzc⟩ := zero_one ν ρ z hz hzl hinf
      split at ha
      · -- onto nil
        split at ha
        · rename_i hq
          simp only [Bool.and_eq_true] at hq
          obtain ⟨q5, q6⟩ := hq
          cases ha
          obtain ⟨x, hxm, h1, h2⟩ := need_den (ν := ν) (cs := [SB.mkLt (SI.mkLen nl) (.lit 1099511627776)]) hd
          cases hb : x.2 with
          | false =>
            refine ⟨(x.1, none), List.mem_flatMap.2 ⟨x, hxm, by simp [hb]⟩, ν, ρ, Agree.refl _ _ _ _, h1, fun y hy => by cases hy⟩
          | true =>
            have c1 := h2 hb (SB.mkLt (SI.mkLen nl) (.lit 1099511627776)) (by simp)
            rw [SB.mkLt_den, SI.mkLen_den] at c1
            replace c1 := of_decide_eq_true c1
            simp only [SI.den] at c1
            have hdp : pcDen ν (x.1 ++ pc) := pcDen_append h1 hd
            -- what is made
            have hnew : (SB.mkLt (.lit 0) (SI.mkLen nl)).den ν = true → ∃ ν' ρ', Agree nm (nm + 1) ν ν' ρ ρ' ∧ ∃ w', (Builtin.append_ #[t, t] ty #[SV.nilSl.den ν ρ, xv]).run P w = .ok ((SV.sl nm (.lit 0) (SI.mkLen nl) (.var nm)).den ν' ρ') w' ∧ HW B ν' ρ' (hadd nm (.row k nl (.var nm) e) hp) w' := by
              intro hc
              rw [SB.mkLt_den, SI.mkLen_den] at hc
              replace hc := of_decide_eq_true hc
              simp only [SI.den] at hc
              obtain ⟨c', rest', o, hrun, hheap, hcap, hmax⟩ := nil_append (ty := ty) hut hinf hzv hsize hby1 hzc hx (by omega) (by omega)
              obtain ⟨ν', hag, hv⟩ : ∃ ν', Agree nm (nm + 1) ν ν' ρ (upd ρ nm w.heap.size) ∧ ν'.i nm = (c' : Int) := ⟨ν.updI nm (c' : Int), agree_updI nm w.heap.size (c' : Int), by simp [Env.updI]⟩
              have e1 : upd ρ nm w.heap.size nm = w.heap.size := by simp [upd]
              have e2 : nl.den ν' = nl.den ν := SL.den_agree hag nl q5
              refine ⟨ν', upd ρ nm w.heap.size, hag, w.drew.alloc o, ?_, h.drew.new (n := nm) (b := .row k nl (.var nm) e) (o := o) hag q6 ?_⟩
              · rw [show SV.nilSl.den ν ρ = .slice none 0 0 from rfl, hrun]
                simp [SV.den, SI.den, SI.mkLen_den, e1, e2, hv]
              · simp only [BlkDen]
                refine ⟨⟨rest', ?_, ?_, ?_⟩, fun j => ?_⟩
                · rw [show w.drew.heap.size = w.heap.size from rfl, e1, e2]; exact hheap
                · rw [e2]; simp [SI.den, hv, hcap]
                · simp only [SI.den, hv]; exact hmax
                · rw [show w.drew.heap.size = w.heap.size from rfl, e1]
            have hnone : (SB.mkLt (.lit 0) (SI.mkLen nl)).den ν = false → ∃ ν' ρ', Agree nm (nm + 1) ν ν' ρ ρ' ∧ ∃ w', (Builtin.append_ #[t, t] ty #[SV.nilSl.den ν ρ, xv]).run P w = .ok (SV.nilSl.den ν' ρ') w' ∧ HW B ν' ρ' hp w' := by
              intro hc
              rw [SB.mkLt_den, SI.mkLen_den] at hc
              replace hc := of_decide_eq_false hc
              simp only [SI.den] at hc
              have hnil : nl.den ν = [] := List.length_eq_zero_iff.1 (by omega)
              rw [hnil] at hx
              exact ⟨ν, ρ, Agree.refl _ _ _ _, w, nil_append_nil hut hinf hx, h⟩
            have fin : ∀ (pcx : PC) (b : Bool), pcDen ν pcx → (SB.mkLt (.lit 0) (SI.mkLen nl)).den ν = b → ∃ ν' ρ', Agree nm (nm + 1) ν ν' ρ ρ' ∧ pcDen ν pcx ∧
                ∀ y, (if b = true then some (SV.sl nm (.lit 0) (SI.mkLen nl) (.var nm), hadd nm (.row k nl (.var nm) e) hp) else some (SV.nilSl, hp)) = some y → ∃ w', (Builtin.append_ #[t, t] ty #[SV.nilSl.den ν ρ, xv]).run P w = .ok (y.1.den ν' ρ') w' ∧ HW B ν' ρ' y.2 w' := by
              intro pcx b hp1 hb'
              cases b with
              | true =>
                obtain ⟨ν', ρ', g1, w', g2, g3⟩ := hnew hb'
                exact ⟨ν', ρ', g1, hp1, fun y hy => by cases hy; exact ⟨w', g2, g3⟩⟩
              | false =>
                obtain ⟨ν', ρ', g1, w', g2, g3⟩ := hnone hb'
                exact ⟨ν', ρ', g1, hp1, fun y hy => by cases hy; exact ⟨w', g2, g3⟩⟩
            cases hk2 : (SB.mkLt (.lit 0) (SI.mkLen nl)).known (x.1 ++ pc) with
            | some bb =>
              have hden := SB.known_den hdp hk2
              obtain ⟨ν', ρ', g1, g2, g3⟩ := fin x.1 bb h1 hden
              cases bb with
              | true => exact ⟨_, List.mem_flatMap.2 ⟨x, hxm, by simp only [hb, if_true, hk2]; exact List.mem_singleton.2 rfl⟩, ν', ρ', g1, g2, g3⟩
              | false => exact ⟨_, List.mem_flatMap.2 ⟨x, hxm, by simp only [hb, if_true, hk2]; exact List.mem_singleton.2 rfl⟩, ν', ρ', g1, g2, g3⟩
            | none =>
              cases hbb : (SB.mkLt (.lit 0) (SI.mkLen nl)).den ν with
              | true =>
                obtain ⟨ν', ρ', g1, g2, g3⟩ := fin ((SB.mkLt (.lit 0) (SI.mkLen nl), true) :: x.1) true (pcDen_cons hbb h1) hbb
                exact ⟨_, List.mem_flatMap.2 ⟨x, hxm, by simp only [hb, if_true, hk2]; exact List.mem_cons_self ..⟩, ν', ρ', g1, g2, g3⟩
              | false =>
                obtain ⟨ν', ρ', g1, g2, g3⟩ := fin ((SB.mkLt (.lit 0) (SI.mkLen nl), false) :: x.1) false (pcDen_cons hbb h1) hbb
                exact ⟨_, List.mem_flatMap.2 ⟨x, hxm, by simp only [hb, if_true, hk2]; exact List.mem_cons_of_mem _ (List.mem_cons_self ..)⟩, ν', ρ', g1, g2, g3⟩
        · cases ha
      · -- onto a row
        rename_i b len cap
        split at ha
        · rename_i bk hg
          split at ha
          · rename_i j l0 c0 ty0 har
            split at ha
            · rename_i hc
              simp only [Bool.and_eq_true] at hc
              obtain ⟨⟨⟨⟨⟨q1, q2⟩, q3⟩, q4⟩, q5⟩, q6⟩ := hc
              have q1 := kBeq_eq q1
              have q2 := Nat.eq_of_beq_eq_true q2
              have q3 := SI.beq_eq q3
              have q4 := SI.beq_eq q4
              subst q1 q2 q3 q4
              cases ha
              obtain ⟨x, hxm, h1, h2⟩ := ways_den (ν := ν) (cs := [SB.mkLt (SI.mkAdd (SI.mkLen l0) (SI.mkLen nl)) (.lit 1099511627776)])
                ((SV.sl nm (.lit 0) (SI.mkLen (SL.mkApp l0 nl)) (.var nm), hadd nm (.row j (SL.mkApp l0 nl) (.var nm) ty0) (herase b hp))) hd
              obtain ⟨rest, hr, hcap, hmax⟩ := asRow_den h (hget_mem hg) har
              have hl0av : l0.av nm (nm + 1) = true := asRow_av har (hav_mem q6 b bk (hget_mem hg)).2
              cases hx2 : x.2 with
              | none => exact ⟨x, hxm, ν, ρ, Agree.refl _ _ _ _, h1, fun y hy => by rw [hx2] at hy; cases hy⟩
              | some y0 =>
                obtain ⟨rfl, hcs⟩ := h2 y0 hx2
                have c1 := hcs (SB.mkLt (SI.mkAdd (SI.mkLen l0) (SI.mkLen nl)) (.lit 1099511627776)) (by simp)
                rw [SB.mkLt_den, SI.mkAdd_den, SI.mkLen_den, SI.mkLen_den] at c1
                replace c1 := of_decide_eq_true c1
                simp only [SI.den] at c1
                obtain ⟨g', c', rest', w', hrun, hheap, hcap', hmax', hwhere⟩ := row_append (ty := ty) hut hinf hzv hsize hby1 hzc hr rfl (c := (c0.den ν).toNat) (by omega) (by omega) hx (by omega)
                obtain ⟨ν', hag, hv⟩ : ∃ ν', Agree nm (nm + 1) ν ν' ρ (upd ρ nm g') ∧ ν' = ν.updI nm (c' : Int) := ⟨ν.updI nm (c' : Int), agree_updI nm g' (c' : Int), rfl⟩
                have hv' : ν'.i nm = (c' : Int) := by rw [hv]; simp [Env.updI]
                have e1 : upd ρ nm g' nm = g' := by simp [upd]
                have e2 : nl.den ν' = nl.den ν := SL.den_agree hag nl q5
                have e3 : l0.den ν' = l0.den ν := SL.den_agree hag l0 hl0av
                have hblk : ∀ (ww : World), ww.heap[g']? = w'.heap[g']? → BlkDen B ν' (upd ρ nm g') ww (fun j => j = g') nm (.row j (SL.mkApp l0 nl) (.var nm) ty0) := by
                  intro ww hww
                  simp only [BlkDen, SL.mkApp_den, e1, e2, e3]
                  refine ⟨⟨rest', by rw [hww]; exact hheap, by simp [SI.den, hv', hcap'], by simp only [SI.den, hv']; exact hmax'⟩, fun _ => trivial⟩
                refine ⟨x, hxm, ν', upd ρ nm g', hag, h1, fun y hy => ?_⟩
                rw [hx2] at hy
                cases hy
                refine ⟨w', ?_, ?_⟩
                · have e5 : (((l0.den ν).length : Int) + ((nl.den ν).length : Int)).toNat = (l0.den ν).length + (nl.den ν).length := by omega
                  simp only [SV.den, SI.den, SI.mkLen_den, SL.mkApp_den, List.length_append, e1, e2, e3, hv', Int.toNat_natCast, Int.toNat_zero]
                  exact hrun
                · rcases hwhere with ⟨rfl, ho, ht, hu, hs, hk⟩ | ⟨rfl, o, rfl⟩
                  · subst hv
                    exact h.rename (hget_mem hg) (asRow_nores har) q6 ho ht hu hs hk (hblk w' rfl)
                  · have he : HW B ν ρ (herase b hp) w.drew := HW.sub h.drew
                    exact he.new (n := nm) (o := o) hag (hav_erase q6) (hblk _ rfl)
            · cases ha
          · cases ha
        · cases ha
      · cases ha
    · cases ha
  · cases ha

/-- append-of-make onto a row: what memory holds then. -/
theorem row_appendZ {t u e ty : Nat} {kn kq : IntKind} {inf : TypeInfo} {z : Value} (hut : P.underlying t = some (.slice e)) (hun : P.underlying u = some (.int kn)) (hi : P.info? e = some inf) (hz : inf.zero = some z) (hsize : inf.size = 1) (hby : inf.bytes ≤ 64) {k : IntKind} (hz1 : z.cells = #[Value.int k 0])
    {g : Nat} {l : List Int} {rest : List Value} {te : Nat} (hr : w.heap[g]? = some (.cells (l.map (Value.int k) ++ rest).toArray te (0, 0))) (hte : te = e) {c : Nat} (hc : c = l.length + rest.length) (hmax : (c : Int) ≤ 9223372036854775807)
    {n : Nat} (hsm : l.length + n < 1099511627776) :
    ∃ g' c' rest' w', (Builtin.append_ #[t, u] ty #[.slice (some ⟨g, 0, none⟩) l.length c, .int kq (n : Int)]).run P w = .ok (.slice (some ⟨g', 0, none⟩) (l.length + n) c') w' ∧
      w'.heap[g']? = some (.cells ((l ++ List.replicate n 0).map (Value.int k) ++ rest').toArray e (0, 0)) ∧ c' = l.length + n + rest'.length ∧ (c' : Int) ≤ 9223372036854775807 ∧
      ((g' = g ∧ w'.os = w.os ∧ w'.tape = w.tape ∧ w'.output = w.output ∧ w'.heap.size = w.heap.size ∧ ∀ j, j ≠ g → w'.heap[j]? = w.heap[j]?) ∨ (g' = w.heap.size ∧ ∃ o, w' = w.drew.alloc o)) := by
  subst hte
  have hzc : ∀ m, Builtin.zeroCells z.cells m = ((List.replicate m (0 : Int)).map (Value.int k)).toArray := by
    intro m
    rw [hz1]
    apply Array.ext'
    simp only [Builtin.zeroCells, List.map_replicate]
    refine List.ext_getElem (by simp) fun i h1 h2 => ?_
    simp [Nat.mod_one]
  have hwr : IntKind.i64.wrap (n : Int) = n := by rw [IntKind.wrap_i64]; omega
  have hneg : ¬ ((n : Int) < 0) := by omega
  have h48i : ¬ (281474976710656 < (n : Int) * (inf.bytes : Int)) := by
    have : n * inf.bytes ≤ 1099511627776 * 64 := Nat.mul_le_mul (by omega) hby
    rw [← Int.natCast_mul]
    omega
  by_cases h0 : n = 0
  · subst h0
    refine ⟨g, c, rest, w, ?_, by simpa using hr, by simpa using hc, hmax, .inl ⟨rfl, rfl, rfl, rfl, rfl, fun _ _ => rfl⟩⟩
    have : l.length ≤ c := by omega
    simp [Builtin.append_, run_underlying hut, run_underlying hun, sizeOf, typeInfo, hi, asInt, asIntOf, IntKind.wrap_i64, this, storeCells]
  · have hns : ¬ (n * inf.size = 0) := by rw [hsize]; omega
    by_cases hroom : l.length + n ≤ c
    · have hst := run_storeCells_at P g (l.length * inf.size) te ((List.replicate n (0 : Int)).map (Value.int k)) 0 (l.map (Value.int k) ++ rest).toArray w hr (by simp [hsize]; omega) (fun u hu => by obtain ⟨y, _, rfl⟩ := List.mem_map.1 hu; rfl)
      simp only [Nat.add_zero] at hst
      have hta := map_take_append l (List.replicate n 0) k rest
      simp only [List.length_replicate] at hta
      refine ⟨g, c, rest.drop n, w.setRow g ((l ++ List.replicate n 0).map (Value.int k) ++ rest.drop n).toArray, ?_, ?_, by simp; omega, hmax, .inl ⟨rfl, rfl, rfl, rfl, by simp, fun j hj => setRow_other w g j _ hj⟩⟩
      · simp only [hsize, Nat.mul_one, List.length_map, List.length_replicate, hta] at hst
        simp only [List.map_append, List.map_replicate] at hst ⊢
        simp [Builtin.append_, run_underlying hut, run_underlying hun, sizeOf, typeInfo, zeroValue, hi, hz, hsize, asInt, asIntOf, hwr, hneg, h48i, h0, hroom, hzc, Addr.add_lit, hst]
      · rw [setRow_heap w g _ _ te _ hr]
    · have hge := grownCap_ge w (l.length + n) c te
      have hold : (Builtin.firstCells inf.size l.length (.slice (some ⟨g, 0, none⟩) l.length c)).run P w.drew = .ok (l.map (Value.int k)).toArray w.drew :=
        run_firstCells_some (P := P) w.drew inf.size l.length ⟨g, 0, none⟩ l.length c (l.map (Value.int k)) (by simp [hsize]) (fun j u hu => by
          rw [add_none]
          have := cell_at (w := w) hr (0 + j)
          rw [show w.drew.cell? ⟨g, 0 + j, none⟩ = w.cell? ⟨g, 0 + j, none⟩ from rfl, this, Nat.zero_add, List.getElem?_append_left (List.getElem?_eq_some_iff.1 hu).1]
          exact hu)
      have hrun := Go.Lib.run_append_grow_zeros (P := P) w t u ty te inf z kq kn hut hun hi hz (some ⟨g, 0, none⟩) l.length c (l.map (Value.int k)) hold n (by omega) (by omega) (by omega) (by omega) (by
          have : n * inf.bytes ≤ 1099511627776 * 64 := Nat.mul_le_mul (by omega) hby
          omega)
        (growslice_fits (by omega) (by
            have : (l.length + n) * inf.bytes ≤ 1099511627776 * 64 := Nat.mul_le_mul (by omega) hby
            omega))
      refine ⟨w.heap.size, grownCap w (l.length + n) c te, (Builtin.zeroCells z.cells (grownCap w (l.length + n) c te - (l.length + n))).toList, _, hrun, ?_, ?_, ?_, .inr ⟨rfl, _, rfl⟩⟩
      · rw [show w.heap.size = w.drew.heap.size from rfl, heap_alloc_new w.drew]
        congr 2
        apply Array.ext'
        simp [hzc]
      · simp [hzc]; omega
      · have := grownCap_le_maxLen w (l.length + n) c te (by simp only [maxLen]; omega)
        simp only [maxLen] at this
        omega

theorem appendZ_run (h : HW B ν ρ hp w) {nm t u : Nat} {kn kq : IntKind} {pc : PC} (hd : pcDen ν pc) {s : SV} {n : SI} (hun : P.underlying u = some (.int kn)) {l : List (PC × Option (SV × Heap))} (ha : appendZ P nm pc hp t s n = some l) (ty : TypeId) :
    ∃ r ∈ l, ∃ ν' ρ', Agree nm (nm + 1) ν ν' ρ ρ' ∧ pcDen ν r.1 ∧ ∀ y, r.2 = some y → ∃ w', (Builtin.append_ #[t, u] ty #[s.den ν ρ, .int kq (n.den ν)]).run P w = .ok (y.1.den ν' ρ') w' ∧ HW B ν' ρ' y.2 w' := by
  unfold appendZ at ha
  split at ha
  · rename_i b len cap
    split at ha
    · rename_i e hut
      split at ha
      · rename_i k inf z hue hsz hinf hz
        have hsize : inf.size = 1 := by unfold sizeT at hsz; rw [hinf] at hsz; simpa using hsz
        split at ha
        · rename_i hby
          simp only [Bool.and_eq_true] at hby
          have hby1 := Nat.le_of_ble_eq_true hby.1.1
          have hzb := SV.beq_eq hby.2
          subst hzb
          obtain ⟨i', zv, hi', hzv, hzd⟩ := zeroT_info (ν := ν) (ρ := ρ) hz
          have hii : inf = i' := Option.some.inj (hinf.symm.trans hi')
          subst hii
          have hzc : zv.cells = #[Value.int k 0] := by rw [hzd]; simp [SV.den, SI.den, Value.cells]
          split at ha
          · rename_i bk hg
            split at ha
            · rename_i j l0 c0 ty0 har
              split at ha
              · rename_i hc
                simp only [Bool.and_eq_true] at hc
                obtain ⟨⟨⟨⟨⟨q1, q2⟩, q3⟩, q4⟩, q5⟩, q6⟩ := hc
                have q1 := kBeq_eq q1
                have q2 := Nat.eq_of_beq_eq_true q2
                have q3 := SI.beq_eq q3
                have q4 := SI.beq_eq q4
                subst q1 q2 q3 q4
                cases ha
                obtain ⟨x, hxm, h1, h2⟩ := ways_den (ν := ν) (cs := [SB.mkLe (.lit 0) n, SB.mkLt (SI.mkAdd (SI.mkLen l0) n) (.lit 1099511627776)])
                  ((SV.sl nm (.lit 0) (SI.mkLen (SL.mkApp l0 (.rep n (.lit 0)))) (.var nm), hadd nm (.row k (SL.mkApp l0 (.rep n (.lit 0))) (.var nm) ty0) (herase b hp))) hd
                obtain ⟨rest, hr, hcap, hmax⟩ := asRow_den h (hget_mem hg) har
                have hl0av : l0.av nm (nm + 1) = true := asRow_av har (hav_mem q6 b bk (hget_mem hg)).2
                cases hx2 : x.2 with
                | none => exact ⟨x, hxm, ν, ρ, Agree.refl _ _ _ _, h1, fun y hy => by rw [hx2] at hy; cases hy⟩
                | some y0 =>
                  obtain ⟨rfl, hcs⟩ := h2 y0 hx2
                  have c0' := hcs (SB.mkLe (.lit 0) n) (by simp)
                  have c1 := hcs (SB.mkLt (SI.mkAdd (SI.mkLen l0) n) (.lit 1099511627776)) (by simp)
                  rw [SB.mkLe_den] at c0'
                  rw [SB.mkLt_den, SI.mkAdd_den, SI.mkLen_den] at c1
                  replace c0' : (0 : Int) ≤ n.den ν := of_decide_eq_true c0'
                  replace c1 : ((l0.den ν).length : Int) + n.den ν < 1099511627776 := of_decide_eq_true c1
                  obtain ⟨m, hm⟩ : ∃ m : Nat, n.den ν = (m : Int) := ⟨(n.den ν).toNat, by omega⟩
                  obtain ⟨g', c', rest', w', hrun, hheap, hcap', hmax', hwhere⟩ := row_appendZ (ty := ty) (kq := kq) hut hun hinf hzv hsize hby1 hzc hr rfl (c := (c0.den ν).toNat) (by omega) (by omega) (n := m) (by omega)
                  obtain ⟨ν', hag, hv⟩ : ∃ ν', Agree nm (nm + 1) ν ν' ρ (upd ρ nm g') ∧ ν' = ν.updI nm (c' : Int) := ⟨ν.updI nm (c' : Int), agree_updI nm g' (c' : Int), rfl⟩
                  have hv' : ν'.i nm = (c' : Int) := by rw [hv]; simp [Env.updI]
                  have e1 : upd ρ nm g' nm = g' := by simp [upd]
                  have e2 : n.den ν' = (m : Int) := (SI.den_agree hag n q5).trans hm
                  have e3 : l0.den ν' = l0.den ν := SL.den_agree hag l0 hl0av
                  have hblk : ∀ (ww : World), ww.heap[g']? = w'.heap[g']? → BlkDen B ν' (upd ρ nm g') ww (fun j => j = g') nm (.row k (SL.mkApp l0 (.rep n (.lit 0))) (.var nm) ty0) := by
                    intro ww hww
                    simp only [BlkDen, SL.mkApp_den, SL.den, SI.den, e1, e2, e3, Int.toNat_natCast]
                    refine ⟨⟨rest', by rw [hww]; exact hheap, by simp [hv', hcap'], by rw [hv']; exact hmax'⟩, fun _ => trivial⟩
                  refine ⟨x, hxm, ν', upd ρ nm g', hag, h1, fun y hy => ?_⟩
                  rw [hx2] at hy
                  cases hy
                  refine ⟨w', ?_, ?_⟩
                  · have e5 : (((l0.den ν).length : Int) + (m : Int)).toNat = (l0.den ν).length + m := by omega
                    simp only [SV.den, SI.den, SI.mkLen_den, SL.mkApp_den, SL.den, List.length_append, List.length_replicate, e1, e2, e3, hv', hm, Int.toNat_natCast, Int.toNat_zero]
                    exact hrun
                  · rcases hwhere with ⟨rfl, ho, ht, hu, hs, hk⟩ | ⟨rfl, o, rfl⟩
                    · subst hv
                      exact h.rename (hget_mem hg) (asRow_nores har) q6 ho ht hu hs hk (hblk w' rfl)
                    · have he : HW B ν ρ (herase b hp) w.drew := HW.sub h.drew
                      exact he.new (n := nm) (o := o) hag (hav_erase q6) (hblk _ rfl)
              · cases ha
            · cases ha
          · cases ha
        · cases ha
      · cases ha
    · cases ha
  · cases ha

theorem repL_int (k : IntKind) (x : SI) : ∀ m, denL ν ρ (repL m [SV.int k x]) = (List.replicate m (x.den ν)).map (Value.int k)
  | 0 => rfl
  | m + 1 => by simp [repL, denL, SV.den, repL_int k x m, List.replicate_succ]

theorem makeX_run (h : HW B ν ρ hp w) {nm t : Nat} {pc : PC} (hd : pcDen ν pc) {len cap : SI} {l : List (PC × Option (SV × Heap))} (hl : makeX P nm pc hp t len cap = some l) :
    ∃ r ∈ l, ∃ ν' ρ', Agree nm (nm + 1) ν ν' ρ ρ' ∧ pcDen ν r.1 ∧ ∀ y, r.2 = some y → ∃ w', (Instr.makeSlice t (.int .i64 (len.den ν)) (.int .i64 (cap.den ν))).run P w = .ok (y.1.den ν' ρ') w' ∧ HW B ν' ρ' y.2 w' := by
  unfold makeX at hl
  split at hl
  · rename_i e hu
    split at hl
    · rename_i n z inf hn hz hinf
      obtain ⟨i, zv, hi, hzv, hzd⟩ := zeroT_info (ν := ν) (ρ := ρ) hz
      have hii : inf = i := Option.some.inj (hinf.symm.trans hi)
      subst hii
      have hsz : inf.size = n := by unfold sizeT at hn; rw [hi] at hn; simpa using hn
      split at hl
      · rename_i hc
        simp only [Bool.and_eq_true] at hc
        obtain ⟨⟨⟨⟨q1, q2⟩, q3⟩, q4⟩, q5⟩ := hc
        have q1 := SI.beq_eq q1
        have q2 := Nat.le_of_ble_eq_true q2
        have q3 := Nat.eq_of_beq_eq_true q3
        have q4 := Nat.le_of_ble_eq_true q4
        subst q1
        have hag := agree_upd (ν := ν) (ρ := ρ) nm w.heap.size
        have e1 : upd ρ nm w.heap.size nm = w.heap.size := by simp [upd]
        split at hl
        · rename_i m
          split at hl
          · rename_i hm
            simp only [Bool.and_eq_true] at hm
            have hm1 := Nat.le_of_ble_eq_true hm.1
            have hm2 := Nat.le_of_ble_eq_true hm.2
            cases hl
            refine ⟨_, List.mem_singleton.2 rfl, ν, upd ρ nm w.heap.size, hag, pcDen_nil ν, fun y hy => ?_⟩
            cases hy
            have hb : (inf.bytes : Int) * ((m : Nat) : Int) ≤ 281474976710656 := by
              have : inf.bytes * m ≤ 1024 * 4096 := Nat.mul_le_mul q4 hm2
              have h2 : ((inf.bytes * m : Nat) : Int) ≤ 281474976710656 := by omega
              rwa [Int.natCast_mul] at h2
            have hrun := run_make (P := P) w t e inf zv hu hi hzv .i64 .i64 ((m : Nat) : Int) ((m : Nat) : Int) (by omega) (Int.le_refl _) hb (by omega)
            have hcells : madeCells zv.cells (m * n) = (denL ν ρ (repL m z.cellsOf)).toArray := by
              have := range_rep (ν := ν) (ρ := ρ) z m n q3 q2
              rw [← hzd] at this
              exact this
            simp only [Int.toNat_natCast, hsz, hcells] at hrun
            refine ⟨w.alloc (.cells (denL ν ρ (repL m z.cellsOf)).toArray e), ?_, h.new (n := nm) (b := .cells (repL m z.cellsOf) e true) hag q5 ?_⟩
            · simp only [SV.den, SI.den, e1]
              exact hrun
            · simp only [BlkDen]
              rw [e1]
              refine ⟨?_, fun _ => Iff.rfl⟩
              have hzr : denL ν (upd ρ nm w.heap.size) (repL m z.cellsOf) = denL ν ρ (repL m z.cellsOf) := by
                obtain ⟨i', zv', hi', hzv', hzd'⟩ := zeroT_info (ν := ν) (ρ := upd ρ nm w.heap.size) hz
                have hii' : inf = i' := Option.some.inj (hinf.symm.trans hi')
                subst hii'
                have ez : zv' = zv := Option.some.inj (hzv'.symm.trans hzv)
                have h2 : madeCells zv'.cells (m * n) = (denL ν (upd ρ nm w.heap.size) (repL m z.cellsOf)).toArray := by
                  have := range_rep (ν := ν) (ρ := upd ρ nm w.heap.size) z m n q3 q2
                  rw [← hzd'] at this
                  exact this
                rw [ez, hcells] at h2
                simpa using h2.symm
              rw [hzr]
              exact heap_alloc_new w _
          · cases hl
        · split at hl
          · rename_i hne _ k x _
            split at hl
            · rename_i hav2
              simp only [Bool.and_eq_true] at hav2
              cases hl
              obtain ⟨r, hr, h1, h2⟩ := ways_den (ν := ν) (cs := [SB.mkLe (.lit 0) len, SB.mkLt len (.lit 1073741824)]) (SV.sl nm (.lit 0) (SI.mkNat len) (SI.mkNat len), hadd nm (.row k (.rep len x) (SI.mkNat len) e) hp) hd
              refine ⟨r, hr, ν, upd ρ nm w.heap.size, hag, h1, fun y hy => ?_⟩
              obtain ⟨rfl, hc⟩ := h2 y hy
              have c1 := hc (SB.mkLe (.lit 0) len) (by simp)
              have c2 := hc (SB.mkLt len (.lit 1073741824)) (by simp)
              rw [SB.mkLe_den] at c1
              rw [SB.mkLt_den] at c2
              replace c1 : (0 : Int) ≤ len.den ν := of_decide_eq_true c1
              replace c2 : len.den ν < 1073741824 := of_decide_eq_true c2
              obtain ⟨m, hm⟩ : ∃ m : Nat, len.den ν = (m : Int) := ⟨(len.den ν).toNat, by omega⟩
              have hb : (inf.bytes : Int) * ((m : Nat) : Int) ≤ 281474976710656 := by
                have : inf.bytes * m ≤ 1024 * 1073741824 := Nat.mul_le_mul q4 (by omega)
                have h2 : ((inf.bytes * m : Nat) : Int) ≤ 281474976710656 := by omega
                rwa [Int.natCast_mul] at h2
              have hrun := run_make (P := P) w t e inf zv hu hi hzv .i64 .i64 ((m : Nat) : Int) ((m : Nat) : Int) (by omega) (Int.le_refl _) hb (by omega)
              have hn1 : n = 1 := by simpa [SV.cellsOf] using q3.symm
              subst hn1
              have hcells : madeCells zv.cells (m * 1) = ((List.replicate m (x.den ν)).map (Value.int k)).toArray := by
                have := range_rep (ν := ν) (ρ := ρ) (.int k x) m 1 q3 q2
                rw [← hzd] at this
                rw [← repL_int (ν := ν) (ρ := ρ)]
                exact this
              simp only [Int.toNat_natCast, hsz, hcells] at hrun
              refine ⟨w.alloc (.cells ((List.replicate m (x.den ν)).map (Value.int k)).toArray e), ?_, h.new (n := nm) (b := .row k (.rep len x) (SI.mkNat len) e) hag q5 ?_⟩
              · simp only [SV.den, SI.den, SI.mkNat_den, e1, hm, Int.toNat_natCast]
                exact hrun
              · simp only [BlkDen, SL.den, SI.mkNat_den, hm, Int.toNat_natCast]
                rw [e1]
                refine ⟨⟨[], ?_, by simp, by omega⟩, fun _ => Iff.rfl⟩
                rw [List.append_nil]
                exact heap_alloc_new w _
            · cases hl
          · cases hl
      · cases hl
    · cases hl
  · cases hl

theorem indexX_run {t e n : Nat} {pc : PC} (hd : pcDen ν pc) (hu : P.underlying t = some (.slice e)) (hn : sizeT P e = some n) {b : Nat} {off len i : SI} {l : List (PC × Option SV)} (hl : indexX pc n b off len i = some l) (kk : IntKind) (cap : Nat) (w : World) :
    ∃ r ∈ l, pcDen ν r.1 ∧ ∀ v, r.2 = some v → (Instr.indexAt t (.slice (some ⟨ρ b, (off.den ν).toNat, none⟩) (len.den ν).toNat cap) (.int kk (i.den ν))).run P w = .ok (v.den ν ρ) w := by
  have key : ∀ (o m : Nat) (k : Int), 0 ≤ k → k < (m : Int) → (Instr.indexAt t (.slice (some ⟨ρ b, o, none⟩) m cap) (.int kk k)).run P w = .ok (.pointer (some ⟨ρ b, o + k.toNat * n, none⟩)) w := by
    intro o m k h0 h1
    have hb' : (0 : Int) ≤ k ∧ k < (m : Int) := ⟨h0, h1⟩
    simp only [Instr.indexAt, asIntOf, Sem.run_bind, Sem.run_pure, Result.andThen_ok, run_underlying hu]
    simp only [Sem.run_ite, hb', and_self, if_true, Sem.run_bind, sizeT_run hn, Result.andThen_ok, Sem.run_pure, add_none]
    try (split <;> simp [run_underlying hu])
  unfold indexX at hl
  split at hl
  · rename_i off len k
    split at hl
    · rename_i hc
      have h1 := Nat.le_of_ble_eq_true hc
      cases hl
      refine ⟨_, List.mem_singleton.2 rfl, pcDen_nil ν, fun v hv => ?_⟩
      cases hv
      simp only [SI.den, SV.den]
      have e2 : (Int.ofNat len).toNat = len := rfl
      have e3 : (Int.ofNat off).toNat = off := rfl
      rw [e2, e3, key off len (Int.ofNat k) (Int.natCast_nonneg k) (by show (k : Int) < (len : Int); omega)]
      rfl
    · cases hl
      exact ⟨_, List.mem_singleton.2 rfl, pcDen_nil ν, fun v hv => by cases hv⟩
  · have nonneg3 : ∀ {r : PC × Option SV} {v z : SV}, r.2 = some v → (∀ u, r.2 = some u → u = z ∧ ∀ c ∈ [SB.mkLe (.lit 0) i, SB.mkLt i (SI.mkNat len), SB.mkLe (.lit 0) off], c.den ν = true) → v = z ∧ 0 ≤ i.den ν ∧ i.den ν < ((len.den ν).toNat : Int) ∧ 0 ≤ off.den ν := by
      intro r v z hv h2
      obtain ⟨rfl, hc⟩ := h2 v hv
      have c1 := hc (SB.mkLe (.lit 0) i) (by simp)
      have c2 := hc (SB.mkLt i (SI.mkNat len)) (by simp)
      have c3 := hc (SB.mkLe (.lit 0) off) (by simp)
      rw [SB.mkLe_den] at c1 c3
      rw [SB.mkLt_den, SI.mkNat_den] at c2
      exact ⟨rfl, of_decide_eq_true c1, of_decide_eq_true c2, of_decide_eq_true c3⟩
    split at hl
    · rename_i hc
      have hn1 := Nat.eq_of_beq_eq_true hc
      subst hn1
      cases hl
      obtain ⟨r, hr, h1, h2⟩ := ways_den (ν := ν) (cs := [SB.mkLe (.lit 0) i, SB.mkLt i (SI.mkNat len), SB.mkLe (.lit 0) off]) (SV.ptr b (SI.mkAdd off i)) hd
      refine ⟨r, hr, h1, fun v hv => ?_⟩
      obtain ⟨rfl, c1, c2, c3⟩ := nonneg3 hv h2
      rw [key _ _ _ c1 c2]
      have e : (off.den ν).toNat + (i.den ν).toNat * 1 = (off.den ν + i.den ν).toNat := by omega
      simp only [SV.den, SI.mkAdd_den, e]
    · cases hl
      obtain ⟨r, hr, h1, h2⟩ := ways_den (ν := ν) (cs := [SB.mkLe (.lit 0) i, SB.mkLt i (SI.mkNat len), SB.mkLe (.lit 0) off]) (SV.ptr b (SI.mkAdd off (SI.mkMul i (.lit (.ofNat n))))) hd
      refine ⟨r, hr, h1, fun v hv => ?_⟩
      obtain ⟨rfl, c1, c2, c3⟩ := nonneg3 hv h2
      rw [key _ _ _ c1 c2]
      obtain ⟨q, hq⟩ : ∃ q : Nat, i.den ν = (q : Int) := ⟨(i.den ν).toNat, by omega⟩
      have e : (off.den ν).toNat + q * n = (off.den ν + (q : Int) * (n : Int)).toNat := by
        rw [← Int.natCast_mul]; omega
      simp only [SV.den, SI.mkAdd_den, SI.mkMul_den, SI.den]
      rw [hq]
      simp only [Int.toNat_natCast]
      rw [e]
      rfl

theorem forkX_den {k : SI} : ∀ (c j : Nat) {pc : PC}, pcDen ν pc → ∃ r ∈ forkX k c j pc, pcDen ν r.1 ∧ ∀ m, r.2 = some m → k.den ν = (m : Int) ∧ j ≤ m ∧ m < j + c
  | 0, j, pc, hd => ⟨([], none), by simp [forkX], pcDen_nil ν, fun m h => by cases h⟩
  | c + 1, j, pc, hd => by
    unfold forkX
    have hden : ∀ b, (SB.mkEq k (.lit (.ofNat j))).den ν = b → (b = true → k.den ν = (j : Int)) := by
      intro b hb hbt
      subst hbt
      rw [SB.mkEq_den] at hb
      simpa [SI.den] using hb
    split
    · rename_i hk
      have := hden _ (SB.known_den hd hk) rfl
      exact ⟨([], some j), by simp, pcDen_nil ν, fun m h => by cases h; exact ⟨this, by omega, by omega⟩⟩
    · obtain ⟨r, hr, h1, h2⟩ := forkX_den c (j + 1) hd
      exact ⟨r, hr, h1, fun m hm => by have := h2 m hm; exact ⟨this.1, by omega, by omega⟩⟩
    · cases hq : (SB.mkEq k (.lit (.ofNat j))).den ν with
      | true =>
        have := hden _ hq rfl
        exact ⟨_, List.mem_cons_self .., pcDen_one hq, fun m h => by cases h; exact ⟨this, by omega, by omega⟩⟩
      | false =>
        obtain ⟨r, hr, h1, h2⟩ := forkX_den c (j + 1) (pcDen_cons hq hd)
        exact ⟨_, List.mem_cons_of_mem _ (List.mem_map.2 ⟨r, hr, rfl⟩), pcDen_append h1 (pcDen_one hq), fun m hm => by have := h2 m hm; exact ⟨this.1, by omega, by omega⟩⟩

theorem copyX_run (h : HW B ν ρ hp w) {t u : Nat} {pc : PC} (hd : pcDen ν pc) {d : SV} {nl : SL} {k : IntKind} {e : Nat} {xv : Value} (hut : P.underlying t = some (.slice e)) (hue : P.underlying e = some (.int k))
    (hx : Reads w xv ((nl.den ν).map (Value.int k))) {l : List (PC × Option (SV × Heap))} (ha : copyX P pc hp t d nl = some l) (ty : TypeId) :
    ∃ r ∈ l, pcDen ν r.1 ∧ ∀ y, r.2 = some y → ∃ w', (Builtin.copy_ #[t, u] ty #[d.den ν ρ, xv]).run P w = .ok (y.1.den ν ρ) w' ∧ HW B ν ρ y.2 w' := by
  unfold copyX at ha
  rw [hut] at ha
  simp only [hue] at ha
  split at ha
  · rename_i k' b len cap hk hsz
    cases hk
    split at ha
    · rename_i bk hg
      split at ha
      · rename_i j l0 c0 ty0 har
        split at ha
        · rename_i hc
          simp only [Bool.and_eq_true] at hc
          have q1 := kBeq_eq hc.1
          have q2 := SI.beq_eq hc.2
          subst q1 q2
          obtain ⟨rest, hr, hcap, hmax⟩ := asRow_den h (hget_mem hg) har
          have hs : (P.info? e).map (·.size) = some 1 := hsz
          obtain ⟨xa, n, cx, rfl, hxl, hxr⟩ := hx
          have hn : (nl.den ν).length = n := by simpa using hxl
          -- what is written
          have key : ∀ (cs : List Int), cs = (nl.den ν).take (l0.den ν).length → ∀ (new : SL), new.den ν = cs ++ (l0.den ν).drop cs.length →
              ∃ w', (Builtin.copy_ #[t, u] ty #[(SV.sl b (.lit 0) (SI.mkLen l0) cap).den ν ρ, .slice xa n cx]).run P w = .ok (.int .i64 (cs.length : Int)) w' ∧ HW B ν ρ (hset b (.row j new c0 ty0) hp) w' := by
            intro cs hcs new hnew
            have hcl : cs.length = Nat.min n (l0.den ν).length := by rw [hcs, List.length_take, hn, Nat.min_comm]
            have hlen : (SI.mkLen l0).den ν = ((l0.den ν).length : Int) := SI.mkLen_den ν l0
            by_cases h0 : cs = []
            · subst h0
              have hrun := run_copy_none w t u ty e (some ⟨ρ b, 0, none⟩) xa (l0.den ν).length (cap.den ν).toNat n cx hut hs (by simpa using hcl.symm)
              refine ⟨w, ?_, h.turn (asRow_nores har) (hget_mem hg) rfl rfl rfl rfl (fun _ _ => rfl) ?_⟩
              · simp only [SV.den, SI.den, hlen, Int.toNat_natCast, Int.toNat_zero]
                rw [hrun]; rfl
              · simp only [BlkDen, hnew]
                refine ⟨⟨rest, by simpa using hr, by simpa using hcap, hmax⟩, fun _ => trivial⟩
            · rcases hxr with ⟨hnil, _⟩ | ⟨ad, rfl, hcell⟩
              · exfalso; apply h0; rw [hcs, List.map_eq_nil_iff.1 hnil]; simp
              · have hrun := run_copy_row P w t u ty e (ρ b) 0 (l0.den ν).length (cap.den ν).toNat ad n cx _ ty0 (cs.map (Value.int j)) hut hs hr (by simpa using hcl)
                  (fun i v hi => by
                    rw [hcs, List.getElem?_map, List.getElem?_take] at hi
                    refine hcell i v ?_
                    rw [List.getElem?_map]
                    split at hi
                    · exact hi
                    · cases hi) (by rw [List.length_map, hcl]; simp; have := Nat.min_le_right n (l0.den ν).length; simp only [Nat.min_def] at *; omega) (fun v hv => by obtain ⟨y, _, rfl⟩ := List.mem_map.1 hv; rfl)
                have hle : cs.length ≤ (l0.den ν).length := by rw [hcl]; exact Nat.min_le_right _ _
                have hcells : ((l0.den ν).map (Value.int j) ++ rest).take 0 ++ cs.map (Value.int j) ++ ((l0.den ν).map (Value.int j) ++ rest).drop (0 + (cs.map (Value.int j)).length) = (new.den ν).map (Value.int j) ++ rest := by
                  rw [hnew, Nat.zero_add, List.length_map, List.drop_append_of_le_length (by simpa using hle)]
                  simp
                refine ⟨_, ?_, h.turn (asRow_nores har) (hget_mem hg) (w' := w.setRow (ρ b) ((new.den ν).map (Value.int j) ++ rest).toArray) rfl rfl rfl (by simp) (fun q hq => setRow_other w (ρ b) q _ hq) ?_⟩
                · simp only [SV.den, SI.den, hlen, Int.toNat_natCast, Int.toNat_zero]
                  rw [hrun, ← hcells]
                  simp only [List.length_map, goInt]
                · simp only [BlkDen]
                  refine ⟨⟨rest, setRow_heap w (ρ b) _ _ ty0 _ hr, ?_, hmax⟩, fun _ => trivial⟩
                  rw [hnew, List.length_append, List.length_drop]
                  omega
          have hlen : (SI.mkLen l0).den ν = ((l0.den ν).length : Int) := SI.mkLen_den ν l0
          have hyes : (SB.mkLe (SI.mkLen nl) (SI.mkLen l0)).den ν = true → ∃ w', (Builtin.copy_ #[t, u] ty #[(SV.sl b (.lit 0) (SI.mkLen l0) cap).den ν ρ, .slice xa n cx]).run P w = .ok ((SV.int .i64 (SI.mkLen nl)).den ν ρ) w' ∧ HW B ν ρ (hset b (.row j (SL.mkApp nl (SL.mkDrop l0 (SI.mkLen nl))) c0 ty0) hp) w' := by
            intro hq
            rw [SB.mkLe_den, SI.mkLen_den, SI.mkLen_den] at hq
            have hq := of_decide_eq_true hq
            have := key (nl.den ν) (by rw [List.take_of_length_le (by omega)]) (SL.mkApp nl (SL.mkDrop l0 (SI.mkLen nl))) (by rw [SL.mkApp_den, SL.mkDrop_den, SI.mkLen_den]; simp)
            simpa [SV.den, SI.mkLen_den] using this
          have hno : (SB.mkLe (SI.mkLen nl) (SI.mkLen l0)).den ν = false → ∃ w', (Builtin.copy_ #[t, u] ty #[(SV.sl b (.lit 0) (SI.mkLen l0) cap).den ν ρ, .slice xa n cx]).run P w = .ok ((SV.int .i64 (SI.mkLen l0)).den ν ρ) w' ∧ HW B ν ρ (hset b (.row j (.take nl (SI.mkLen l0)) c0 ty0) hp) w' := by
            intro hq
            rw [SB.mkLe_den, SI.mkLen_den, SI.mkLen_den] at hq
            have hq := of_decide_eq_false hq
            have hl2 : ((nl.den ν).take (l0.den ν).length).length = (l0.den ν).length := by rw [List.length_take]; omega
            have := key _ rfl (.take nl (SI.mkLen l0)) (by rw [hl2]; simp [SL.den, SI.mkLen_den])
            rw [hl2] at this
            simpa [SV.den, SI.mkLen_den] using this
          split at ha
          · rename_i hk
            cases ha
            exact ⟨_, List.mem_singleton.2 rfl, pcDen_nil ν, fun y hy => by cases hy; exact hyes (SB.known_den hd hk)⟩
          · rename_i hk
            cases ha
            exact ⟨_, List.mem_singleton.2 rfl, pcDen_nil ν, fun y hy => by cases hy; exact hno (SB.known_den hd hk)⟩
          · cases ha
            cases hq : (SB.mkLe (SI.mkLen nl) (SI.mkLen l0)).den ν with
            | true => exact ⟨_, List.mem_cons_self .., pcDen_asm1 hq, fun y hy => by cases hy; exact hyes hq⟩
            | false => exact ⟨_, List.mem_cons_of_mem _ (List.mem_singleton.2 rfl), pcDen_asm1 hq, fun y hy => by cases hy; exact hno hq⟩
        · cases ha
      · cases ha
    · cases ha
  · cases ha
end
end Go.Sy
