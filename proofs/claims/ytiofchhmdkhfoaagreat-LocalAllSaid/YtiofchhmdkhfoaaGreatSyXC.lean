/- Texts of one library, in one file. -/
import Derived.Test.YtiofchhmdkhfoaaGreatSyXB
import Derived.Lib.AppendZerosOnto
import Derived.Test.YtiofchhmdkhfoaaGreatSyXA
import Derived.LoopN
set_option linter.unusedVariables false
set_option linter.unusedSimpArgs false

section
namespace Go.Sy
open Go

section
variable {P : Program} {G : Type} {ν : Env G} {ρ : Nat → Nat} {B : Base} {hp : Heap} {w : World}

theorem own_at (h : HW B ν ρ hp w) {b : Nat} {bk : SBk} (hg : (b, bk) ∈ hp) (hc : NoRes bk) : B.own (ρ b) := by
  obtain ⟨F, h1, h2, _⟩ := h.foot
  exact h2 b bk _ hg ((BlkDen.single hc (h1 b bk hg) _).2 rfl)

theorem asRow_nores {bk : SBk} {k : IntKind} {l : SL} {c : SI} {ty : Nat} (ha : asRow P bk = some (k, l, c, ty)) : NoRes bk := by
  unfold asRow at ha
  split at ha
  · trivial
  · trivial
  · cases ha

theorem toSL_av {lo hi : Nat} {k : IntKind} : ∀ {cs : List SV} {l : SL}, toSL k cs = some l → avL lo hi cs = true → l.av lo hi = true
  | [], l, h, _ => by simp only [toSL, Option.some.injEq] at h; subst h; rfl
  | .int j e :: r, l, h, hv => by
    unfold toSL at h
    split at h
    · simp only [Option.map_eq_some_iff] at h
      obtain ⟨l', hl, rfl⟩ := h
      simp only [avL, SV.av, Bool.and_eq_true] at hv
      simp only [SL.av, Bool.and_eq_true]
      exact ⟨hv.1, toSL_av hl hv.2⟩
    · cases h
  | .bool _ :: _, _, h, _ | .gv _ _ _ :: _, _, h, _ | .osl _ _ _ :: _, _, h, _ | .ptr _ _ :: _, _, h, _ | .nilPtr :: _, _, h, _ | .nilFunc :: _, _, h, _ | .fn _ _ _ :: _, _, h, _ | .nilSl :: _, _, h, _ | .emp _ :: _, _, h, _ | .dead :: _, _, h, _ | .sl _ _ _ _ :: _, _, h, _ | .opq _ :: _, _, h, _ | .agg _ :: _, _, h, _ | .tup _ :: _, _, h, _ | .ifc _ _ :: _, _, h, _ | .nilIf :: _, _, h, _ => by simp [toSL] at h

theorem asRow_av {lo hi : Nat} {bk : SBk} {k : IntKind} {l : SL} {c : SI} {ty : Nat} (ha : asRow P bk = some (k, l, c, ty)) (hv : bk.av lo hi = true) : l.av lo hi = true := by
  unfold asRow at ha
  split at ha
  · cases ha; simp only [SBk.av, Bool.and_eq_true] at hv; exact hv.1
  · split at ha
    · split at ha
      · simp only [Option.map_eq_some_iff, Prod.mk.injEq] at ha
        obtain ⟨l', hl, _, rfl, _, _⟩ := ha
        exact toSL_av hl hv
      · cases ha
    · cases ha
  · cases ha

/-- A row in the place of block b, under a new name. -/
theorem HW.rename (h : HW B ν ρ hp w) {b nm : Nat} {bk : SBk} (hg : (b, bk) ∈ hp) (hc : NoRes bk) (hav' : hav nm (nm + 1) hp = true) {x : Int} {b' : SBk} {w' : World}
    (ho : w'.os = w.os) (ht : w'.tape = w.tape) (hu : w'.output = w.output) (hs : w'.heap.size = w.heap.size) (hk : ∀ k, k ≠ ρ b → w'.heap[k]? = w.heap[k]?)
    (hb : BlkDen B (ν.updI nm x) (upd ρ nm (ρ b)) w' (fun j => j = ρ b) nm b') : HW B (ν.updI nm x) (upd ρ nm (ρ b)) (hadd nm b' (herase b hp)) w' := by
  have he : HW B ν ρ (herase b hp) w := h.sub
  have hown := own_at h hg hc
  refine he.put (agree_updI nm (ρ b) x) (hav_erase hav') ho ht hu (by omega) hown ?_ (fun j hj _ => hk j hj) hb (fun j hj => hk j (fun e => hj (e ▸ hown)))
  obtain ⟨F, h1, h2, h3⟩ := h.foot
  refine ⟨F, fun n c hm => h1 n c (herase_mem.1 hm).1, fun n c k hm => h2 n c k (herase_mem.1 hm).1, fun n c m d k hm hm' => h3 n c m d k (herase_mem.1 hm).1 (herase_mem.1 hm').1, fun n c hm hF => ?_⟩
  exact (herase_mem.1 hm).2 (h3 n c b bk (ρ b) (herase_mem.1 hm).1 hg hF ((BlkDen.single hc (h1 b bk hg) _).2 rfl))

theorem map_take_append (l m : List Int) (k : IntKind) (rest : List Value) :
    ((l.map (Value.int k) ++ rest).take l.length ++ m.map (Value.int k) ++ (l.map (Value.int k) ++ rest).drop (l.length + m.length)) = (l ++ m).map (Value.int k) ++ rest.drop m.length := by
  rw [List.take_append_of_le_length (by simp), List.take_of_length_le (by simp)]
  rw [List.drop_append]
  simp

theorem firstCells_empty (n : Nat) (a : Option Addr) (c : Nat) (w : World) : (Builtin.firstCells n 0 (.slice a 0 c)).run P w = .ok #[] w := by
  cases a <;> simp [Builtin.firstCells, loadCells, loadCellsFrom]

/-- append onto a row, and onto nil: what memory holds then. -/
theorem row_append {t e ty : Nat} {inf : TypeInfo} {z : Value} (hut : P.underlying t = some (.slice e)) (hi : P.info? e = some inf) (hz : inf.zero = some z) (hsize : inf.size = 1) (hby : inf.bytes ≤ 64) (hz1 : z.cells.size = 1)
    {g : Nat} {k : IntKind} {l m : List Int} {rest : List Value} {te : Nat} (hr : w.heap[g]? = some (.cells (l.map (Value.int k) ++ rest).toArray te (0, 0))) (hte : te = e) {c : Nat} (hc : c = l.length + rest.length) (hmax : (c : Int) ≤ 9223372036854775807)
    {xv : Value} (hx : Reads w xv (m.map (Value.int k))) (hsm : l.length + m.length < 1099511627776) :
    ∃ g' c' rest' w', (Builtin.append_ #[t, t] ty #[.slice (some ⟨g, 0, none⟩) l.length c, xv]).run P w = .ok (.slice (some ⟨g', 0, none⟩) (l.length + m.length) c') w' ∧
      w'.heap[g']? = some (.cells ((l ++ m).map (Value.int k) ++ rest').toArray e (0, 0)) ∧ c' = l.length + m.length + rest'.length ∧ (c' : Int) ≤ 9223372036854775807 ∧
      ((g' = g ∧ w'.os = w.os ∧ w'.tape = w.tape ∧ w'.output = w.output ∧ w'.heap.size = w.heap.size ∧ ∀ j, j ≠ g → w'.heap[j]? = w.heap[j]?) ∨ (g' = w.heap.size ∧ ∃ o, w' = w.drew.alloc o)) := by
  subst hte
  obtain ⟨xa, n, cx, rfl, hxl, hxr⟩ := hx
  have hn : m.length = n := by simpa using hxl
  subst hn
  by_cases h0 : m = []
  · subst h0
    refine ⟨g, c, rest, w, ?_, by simpa using hr, by simpa using hc, hmax, .inl ⟨rfl, rfl, rfl, rfl, rfl, fun _ _ => rfl⟩⟩
    have : l.length ≤ c := by omega
    simp [Builtin.append_, run_underlying hut, sizeOf, typeInfo, hi, Builtin.lenOf, firstCells_empty, this, storeCells]
  · rcases hxr with ⟨hnil, _⟩ | ⟨ad, rfl, hcell⟩
    · exact absurd (List.map_eq_nil_iff.1 hnil) h0
    · by_cases hroom : l.length + m.length ≤ c
      · have hrun := run_append_room (P := P) w t ty te inf hut hi g l.length c _ hr ad m.length cx (m.map (Value.int k)) (by simp [hsize]) hcell (fun u hu => by obtain ⟨y, _, rfl⟩ := List.mem_map.1 hu; rfl) hroom (by simp [hsize]; omega)
        have hta := map_take_append l m k rest
        simp only [List.length_map, hsize, Nat.mul_one, hta] at hrun
        refine ⟨g, c, rest.drop m.length, w.setRow g ((l ++ m).map (Value.int k) ++ rest.drop m.length).toArray, ?_, ?_, by simp; omega, hmax, .inl ⟨rfl, rfl, rfl, rfl, by simp, fun j hj => setRow_other w g j _ hj⟩⟩
        · exact hrun
        · rw [setRow_heap w g _ _ te _ hr]
      · have hge := grownCap_ge w (l.length + m.length) c te
        have hrun := run_append_grow (P := P) w t ty te inf z hut hi hz ⟨g, 0, none⟩ l.length c (l.map (Value.int k)) (by simp [hsize]) (fun j u hu => by
            rw [add_none, cell_at hr, Nat.zero_add, List.getElem?_append_left (List.getElem?_eq_some_iff.1 hu).1]; exact hu) ad m.length cx (m.map (Value.int k)) (by simp [hsize]) hcell (by omega) (by omega)
          (growslice_fits (by omega) (by
            have : (l.length + m.length) * inf.bytes ≤ 1099511627776 * 64 := Nat.mul_le_mul (by omega) hby
            omega))
        refine ⟨w.heap.size, grownCap w (l.length + m.length) c te, (Builtin.zeroCells z.cells (grownCap w (l.length + m.length) c te - (l.length + m.length))).toList, _, hrun, ?_, ?_, ?_, .inr ⟨rfl, _, rfl⟩⟩
        · rw [show w.heap.size = w.drew.heap.size from rfl, heap_alloc_new w.drew]
          congr 2
          apply Array.ext'
          simp
        · simp [size_zeroCells, hz1]; omega
        · have := grownCap_le_maxLen w (l.length + m.length) c te (by simp only [maxLen]; omega)
          simp only [maxLen] at this
          omega

theorem nil_append {t e ty : Nat} {inf : TypeInfo} {z : Value} (hut : P.underlying t = some (.slice e)) (hi : P.info? e = some inf) (hz : inf.zero = some z) (hsize : inf.size = 1) (hby : inf.bytes ≤ 64) (hz1 : z.cells.size = 1)
    {k : IntKind} {m : List Int} {xv : Value} (hx : Reads w xv (m.map (Value.int k))) (hsm : m.length < 1099511627776) (hm : 0 < m.length) :
    ∃ c' rest' o, (Builtin.append_ #[t, t] ty #[.slice none 0 0, xv]).run P w = .ok (.slice (some ⟨w.heap.size, 0, none⟩) m.length c') (w.drew.alloc o) ∧
      (w.drew.alloc o).heap[w.heap.size]? = some (.cells (m.map (Value.int k) ++ rest').toArray e (0, 0)) ∧ c' = m.length + rest'.length ∧ (c' : Int) ≤ 9223372036854775807 := by
  obtain ⟨xa, n, cx, rfl, hxl, hxr⟩ := hx
  have hn : m.length = n := by simpa using hxl
  subst hn
  rcases hxr with ⟨hnil, _⟩ | ⟨ad, rfl, hcell⟩
  · rw [List.map_eq_nil_iff.1 hnil] at hm; cases hm
  · have hge := grownCap_ge w m.length 0 e
    have hrun := run_append_nil (P := P) w t ty e inf z hut hi hz ad m.length cx (m.map (Value.int k)) (by simp [hsize]) hcell (by omega) (by omega) (by
      have : m.length * inf.bytes ≤ 1099511627776 * 64 := Nat.mul_le_mul (by omega) hby
      omega)
    refine ⟨grownCap w m.length 0 e, (Builtin.zeroCells z.cells (grownCap w m.length 0 e - m.length)).toList, _, hrun, ?_, ?_, ?_⟩
    · rw [show w.heap.size = w.drew.heap.size from rfl, heap_alloc_new w.drew]
      congr 2
      apply Array.ext'
      simp
    · simp [size_zeroCells, hz1]; omega
    · have := grownCap_le_maxLen w m.length 0 e (by simp only [maxLen]; omega)
      simp only [maxLen] at this
      omega

theorem nil_append_nil {t e ty : Nat} {inf : TypeInfo} (hut : P.underlying t = some (.slice e)) (hi : P.info? e = some inf) {xv : Value} (hx : Reads w xv []) :
    (Builtin.append_ #[t, t] ty #[.slice none 0 0, xv]).run P w = .ok (.slice none 0 0) w := by
  obtain ⟨xa, n, cx, rfl, hxl, hxr⟩ := hx
  have hn0 : n = 0 := by simpa using hxl.symm
  subst hn0
  simp [Builtin.append_, run_underlying hut, sizeOf, typeInfo, hi, Builtin.lenOf, firstCells_empty]

theorem zero_one (ν : Env G) (ρ : Nat → Nat) {e : Nat} {inf : TypeInfo} (z : SV) (hz : zeroT P e = some z) (h1 : z.cellsOf.length = 1) (hi : P.info? e = some inf) : ∃ zv, inf.zero = some zv ∧ zv.cells.size = 1 := by
  obtain ⟨i, zv, hi', hzv, hzd⟩ := zeroT_info (ν := ν) (ρ := ρ) hz
  have hii : inf = i := Option.some.inj (hi.symm.trans hi')
  subst hii
  refine ⟨zv, hzv, ?_⟩
  rw [hzd, cells_den]
  simp [denL_length, h1]

theorem appendR_run (h : HW B ν ρ hp w) {nm t : Nat} {pc : PC} (hd : pcDen ν pc) {s : SV} {nl : SL} {k : IntKind} {e : Nat} {xv : Value} (hut : P.underlying t = some (.slice e)) (hue : P.underlying e = some (.int k))
    (hx : Reads w xv ((nl.den ν).map (Value.int k))) {l : List (PC × Option (SV × Heap))} (ha : appendR P nm pc hp t s nl = some l) (ty : TypeId) :
    ∃ r ∈ l, ∃ ν' ρ', Agree nm (nm + 1) ν ν' ρ ρ' ∧ pcDen ν r.1 ∧ ∀ y, r.2 = some y → ∃ w', (Builtin.append_ #[t, t] ty #[s.den ν ρ, xv]).run P w = .ok (y.1.den ν' ρ') w' ∧ HW B ν' ρ' y.2 w' := by
  unfold appendR at ha
  rw [hut] at ha
  simp only [hue] at ha
  split at ha
  · rename_i k' inf z hk hsz hinf hz
    cases hk
    have hsize : inf.size = 1 := by unfold sizeT at hsz; rw [hinf] at hsz; simpa using hsz
    split at ha
    · rename_i hby
      simp only [Bool.and_eq_true] at hby
      have hby1 := Nat.le_of_ble_eq_true hby.1.1
      have hzl := Nat.eq_of_beq_eq_true hby.2
      obtain ⟨zv, hzv, hzc⟩ := zero_one ν ρ z hz hzl hinf
      split at ha
      · -- onto nil
        split at ha
        · rename_i hq
          simp only [Bool.and_eq_true] at hq
          obtain ⟨q5, q6⟩ := hq
          cases ha
          obtain ⟨x, hxm, h1, h2⟩ := need_den (ν := ν) (cs := [SB.mkLt (SI.mkLen nl) (.lit 1099511627776)]) hd
          cases hb : x.2 with
          | false =>
            refine ⟨(x.1, none), List.mem_flatMap.2 ⟨x, hxm, by simp [hb]⟩, ν, ρ, Agree.refl _ _ _ _, h1, fun y hy => by cases hy⟩
          | true =>
            have c1 := h2 hb (SB.mkLt (SI.mkLen nl) (.lit 1099511627776)) (by simp)
            rw [SB.mkLt_den, SI.mkLen_den] at c1
            replace c1 := of_decide_eq_true c1
            simp only [SI.den] at c1
            have hdp : pcDen ν (x.1 ++ pc) := pcDen_append h1 hd
            -- what is made
            have hnew : (SB.mkLt (.lit 0) (SI.mkLen nl)).den ν = true → ∃ ν' ρ', Agree nm (nm + 1) ν ν' ρ ρ' ∧ ∃ w', (Builtin.append_ #[t, t] ty #[SV.nilSl.den ν ρ, xv]).run P w = .ok ((SV.sl nm (.lit 0) (SI.mkLen nl) (.var nm)).den ν' ρ') w' ∧ HW B ν' ρ' (hadd nm (.row k nl (.var nm) e) hp) w' := by
              intro hc
              rw [SB.mkLt_den, SI.mkLen_den] at hc
              replace hc := of_decide_eq_true hc
              simp only [SI.den] at hc
              obtain ⟨c', rest', o, hrun, hheap, hcap, hmax⟩ := nil_append (ty := ty) hut hinf hzv hsize hby1 hzc hx (by omega) (by omega)
              obtain ⟨ν', hag, hv⟩ : ∃ ν', Agree nm (nm + 1) ν ν' ρ (upd ρ nm w.heap.size) ∧ ν'.i nm = (c' : Int) := ⟨ν.updI nm (c' : Int), agree_updI nm w.heap.size (c' : Int), by simp [Env.updI]⟩
              have e1 : upd ρ nm w.heap.size nm = w.heap.size := by simp [upd]
              have e2 : nl.den ν' = nl.den ν := SL.den_agree hag nl q5
              refine ⟨ν', upd ρ nm w.heap.size, hag, w.drew.alloc o, ?_, h.drew.new (n := nm) (b := .row k nl (.var nm) e) (o := o) hag q6 ?_⟩
              · rw [show SV.nilSl.den ν ρ = .slice none 0 0 from rfl, hrun]
                simp [SV.den, SI.den, SI.mkLen_den, e1, e2, hv]
              · simp only [BlkDen]
                refine ⟨⟨rest', ?_, ?_, ?_⟩, fun j => ?_⟩
                · rw [show w.drew.heap.size = w.heap.size from rfl, e1, e2]; exact hheap
                · rw [e2]; simp [SI.den, hv, hcap]
                · simp only [SI.den, hv]; exact hmax
                · rw [show w.drew.heap.size = w.heap.size from rfl, e1]
            have hnone : (SB.mkLt (.lit 0) (SI.mkLen nl)).den ν = false → ∃ ν' ρ', Agree nm (nm + 1) ν ν' ρ ρ' ∧ ∃ w', (Builtin.append_ #[t, t] ty #[SV.nilSl.den ν ρ, xv]).run P w = .ok (SV.nilSl.den ν' ρ') w' ∧ HW B ν' ρ' hp w' := by
              intro hc
              rw [SB.mkLt_den, SI.mkLen_den] at hc
              replace hc := of_decide_eq_false hc
              simp only [SI.den] at hc
              have hnil : nl.den ν = [] := List.length_eq_zero_iff.1 (by omega)
              rw [hnil] at hx
              exact ⟨ν, ρ, Agree.refl _ _ _ _, w, nil_append_nil hut hinf hx, h⟩
            have fin : ∀ (pcx : PC) (b : Bool), pcDen ν pcx → (SB.mkLt (.lit 0) (SI.mkLen nl)).den ν = b → ∃ ν' ρ', Agree nm (nm + 1) ν ν' ρ ρ' ∧ pcDen ν pcx ∧
                ∀ y, (if b = true then some (SV.sl nm (.lit 0) (SI.mkLen nl) (.var nm), hadd nm (.row k nl (.var nm) e) hp) else some (SV.nilSl, hp)) = some y → ∃ w', (Builtin.append_ #[t, t] ty #[SV.nilSl.den ν ρ, xv]).run P w = .ok (y.1.den ν' ρ') w' ∧ HW B ν' ρ' y.2 w' := by
              intro pcx b hp1 hb'
              cases b with
              | true =>
                obtain ⟨ν', ρ', g1, w', g2, g3⟩ := hnew hb'
                exact ⟨ν', ρ', g1, hp1, fun y hy => by cases hy; exact ⟨w', g2, g3⟩⟩
              | false =>
                obtain ⟨ν', ρ', g1, w', g2, g3⟩ := hnone hb'
                exact ⟨ν', ρ', g1, hp1, fun y hy => by cases hy; exact ⟨w', g2, g3⟩⟩
            cases hk2 : (SB.mkLt (.lit 0) (SI.mkLen nl)).known (x.1 ++ pc) with
            | some bb =>
              have hden := SB.known_den hdp hk2
              obtain ⟨ν', ρ', g1, g2, g3⟩ := fin x.1 bb h1 hden
              cases bb with
              | true => exact ⟨_, List.mem_flatMap.2 ⟨x, hxm, by simp only [hb, if_true, hk2]; exact List.mem_singleton.2 rfl⟩, ν', ρ', g1, g2, g3⟩
              | false => exact ⟨_, List.mem_flatMap.2 ⟨x, hxm, by simp only [hb, if_true, hk2]; exact List.mem_singleton.2 rfl⟩, ν', ρ', g1, g2, g3⟩
            | none =>
              cases hbb : (SB.mkLt (.lit 0) (SI.mkLen nl)).den ν with
              | true =>
                obtain ⟨ν', ρ', g1, g2, g3⟩ := fin ((SB.mkLt (.lit 0) (SI.mkLen nl), true) :: x.1) true (pcDen_cons hbb h1) hbb
                exact ⟨_, List.mem_flatMap.2 ⟨x, hxm, by simp only [hb, if_true, hk2]; exact List.mem_cons_self ..⟩, ν', ρ', g1, g2, g3⟩
              | false =>
                obtain ⟨ν', ρ', g1, g2, g3⟩ := fin ((SB.mkLt (.lit 0) (SI.mkLen nl), false) :: x.1) false (pcDen_cons hbb h1) hbb
                exact ⟨_, List.mem_flatMap.2 ⟨x, hxm, by simp only [hb, if_true, hk2]; exact List.mem_cons_of_mem _ (List.mem_cons_self ..)⟩, ν', ρ', g1, g2, g3⟩
        · cases ha
      · -- onto a row
        rename_i b len cap
        split at ha
        · rename_i bk hg
          split at ha
          · rename_i j l0 c0 ty0 har
            split at ha
            · rename_i hc
              simp only [Bool.and_eq_true] at hc
              obtain ⟨⟨⟨⟨⟨q1, q2⟩, q3⟩, q4⟩, q5⟩, q6⟩ := hc
              have q1 := kBeq_eq q1
              have q2 := Nat.eq_of_beq_eq_true q2
              have q3 := SI.beq_eq q3
              have q4 := SI.beq_eq q4
              subst q1 q2 q3 q4
              cases ha
              obtain ⟨x, hxm, h1, h2⟩ := ways_den (ν := ν) (cs := [SB.mkLt (SI.mkAdd (SI.mkLen l0) (SI.mkLen nl)) (.lit 1099511627776)])
                ((SV.sl nm (.lit 0) (SI.mkLen (SL.mkApp l0 nl)) (.var nm), hadd nm (.row j (SL.mkApp l0 nl) (.var nm) ty0) (herase b hp))) hd
              obtain ⟨rest, hr, hcap, hmax⟩ := asRow_den h (hget_mem hg) har
              have hl0av : l0.av nm (nm + 1) = true := asRow_av har (hav_mem q6 b bk (hget_mem hg)).2
              cases hx2 : x.2 with
              | none => exact ⟨x, hxm, ν, ρ, Agree.refl _ _ _ _, h1, fun y hy => by rw [hx2] at hy; cases hy⟩
              | some y0 =>
                obtain ⟨rfl, hcs⟩ := h2 y0 hx2
                have c1 := hcs (SB.mkLt (SI.mkAdd (SI.mkLen l0) (SI.mkLen nl)) (.lit 1099511627776)) (by simp)
                rw [SB.mkLt_den, SI.mkAdd_den, SI.mkLen_den, SI.mkLen_den] at c1
                replace c1 := of_decide_eq_true c1
                simp only [SI.den] at c1
                obtain ⟨g', c', rest', w', hrun, hheap, hcap', hmax', hwhere⟩ := row_append (ty := ty) hut hinf hzv hsize hby1 hzc hr rfl (c := (c0.den ν).toNat) (by omega) (by omega) hx (by omega)
                obtain ⟨ν', hag, hv⟩ : ∃ ν', Agree nm (nm + 1) ν ν' ρ (upd ρ nm g') ∧ ν' = ν.updI nm (c' : Int) := ⟨ν.updI nm (c' : Int), agree_updI nm g' (c' : Int), rfl⟩
                have hv' : ν'.i nm = (c' : Int) := by rw [hv]; simp [Env.updI]
                have e1 : upd ρ nm g' nm = g' := by simp [upd]
                have e2 : nl.den ν' = nl.den ν := SL.den_agree hag nl q5
                have e3 : l0.den ν' = l0.den ν := SL.den_agree hag l0 hl0av
                have hblk : ∀ (ww : World), ww.heap[g']? = w'.heap[g']? → BlkDen B ν' (upd ρ nm g') ww (fun j => j = g') nm (.row j (SL.mkApp l0 nl) (.var nm) ty0) := by
                  intro ww hww
                  simp only [BlkDen, SL.mkApp_den, e1, e2, e3]
                  refine ⟨⟨rest', by rw [hww]; exact hheap, by simp [SI.den, hv', hcap'], by simp only [SI.den, hv']; exact hmax'⟩, fun _ => trivial⟩
                refine ⟨x, hxm, ν', upd ρ nm g', hag, h1, fun y hy => ?_⟩
                rw [hx2] at hy
                cases hy
                refine ⟨w', ?_, ?_⟩
                · have e5 : (((l0.den ν).length : Int) + ((nl.den ν).length : Int)).toNat = (l0.den ν).length + (nl.den ν).length := by omega
                  simp only [SV.den, SI.den, SI.mkLen_den, SL.mkApp_den, List.length_append, e1, e2, e3, hv', Int.toNat_natCast, Int.toNat_zero]
                  exact hrun
                · rcases hwhere with ⟨rfl, ho, ht, hu, hs, hk⟩ | ⟨rfl, o, rfl⟩
                  · subst hv
                    exact h.rename (hget_mem hg) (asRow_nores har) q6 ho ht hu hs hk (hblk w' rfl)
                  · have he : HW B ν ρ (herase b hp) w.drew := HW.sub h.drew
                    exact he.new (n := nm) (o := o) hag (hav_erase q6) (hblk _ rfl)
            · cases ha
          · cases ha
        · cases ha
      · cases ha
    · cases ha
  · cases ha

/-- append-of-make onto a row: what memory holds then. -/
theorem row_appendZ {t u e ty : Nat} {kn kq : IntKind} {inf : TypeInfo} {z : Value} (hut : P.underlying t = some (.slice e)) (hun : P.underlying u = some (.int kn)) (hi : P.info? e = some inf) (hz : inf.zero = some z) (hsize : inf.size = 1) (hby : inf.bytes ≤ 64) {k : IntKind} (hz1 : z.cells = #[Value.int k 0])
    {g : Nat} {l : List Int} {rest : List Value} {te : Nat} (hr : w.heap[g]? = some (.cells (l.map (Value.int k) ++ rest).toArray te (0, 0))) (hte : te = e) {c : Nat} (hc : c = l.length + rest.length) (hmax : (c : Int) ≤ 9223372036854775807)
    {n : Nat} (hsm : l.length + n < 1099511627776) :
    ∃ g' c' rest' w', (Builtin.append_ #[t, u] ty #[.slice (some ⟨g, 0, none⟩) l.length c, .int kq (n : Int)]).run P w = .ok (.slice (some ⟨g', 0, none⟩) (l.length + n) c') w' ∧
      w'.heap[g']? = some (.cells ((l ++ List.replicate n 0).map (Value.int k) ++ rest').toArray e (0, 0)) ∧ c' = l.length + n + rest'.length ∧ (c' : Int) ≤ 9223372036854775807 ∧
      ((g' = g ∧ w'.os = w.os ∧ w'.tape = w.tape ∧ w'.output = w.output ∧ w'.heap.size = w.heap.size ∧ ∀ j, j ≠ g → w'.heap[j]? = w.heap[j]?) ∨ (g' = w.heap.size ∧ ∃ o, w' = w.drew.alloc o)) := by
  subst hte
  have hzc : ∀ m, Builtin.zeroCells z.cells m = ((List.replicate m (0 : Int)).map (Value.int k)).toArray := by
    intro m
    rw [hz1]
    apply Array.ext'
    simp only [Builtin.zeroCells, List.map_replicate]
    refine List.ext_getElem (by simp) fun i h1 h2 => ?_
    simp [Nat.mod_one]
  have hwr : IntKind.i64.wrap (n : Int) = n := by rw [IntKind.wrap_i64]; omega
  have hneg : ¬ ((n : Int) < 0) := by omega
  have h48i : ¬ (281474976710656 < (n : Int) * (inf.bytes : Int)) := by
    have : n * inf.bytes ≤ 1099511627776 * 64 := Nat.mul_le_mul (by omega) hby
    rw [← Int.natCast_mul]
    omega
  by_cases h0 : n = 0
  · subst h0
    refine ⟨g, c, rest, w, ?_, by simpa using hr, by simpa using hc, hmax, .inl ⟨rfl, rfl, rfl, rfl, rfl, fun _ _ => rfl⟩⟩
    have : l.length ≤ c := by omega
    simp [Builtin.append_, run_underlying hut, run_underlying hun, sizeOf, typeInfo, hi, asInt, asIntOf, IntKind.wrap_i64, this, storeCells]
  · have hns : ¬ (n * inf.size = 0) := by rw [hsize]; omega
    by_cases hroom : l.length + n ≤ c
    · have hst := run_storeCells_at P g (l.length * inf.size) te ((List.replicate n (0 : Int)).map (Value.int k)) 0 (l.map (Value.int k) ++ rest).toArray w hr (by simp [hsize]; omega) (fun u hu => by obtain ⟨y, _, rfl⟩ := List.mem_map.1 hu; rfl)
      simp only [Nat.add_zero] at hst
      have hta := map_take_append l (List.replicate n 0) k rest
      simp only [List.length_replicate] at hta
      refine ⟨g, c, rest.drop n, w.setRow g ((l ++ List.replicate n 0).map (Value.int k) ++ rest.drop n).toArray, ?_, ?_, by simp; omega, hmax, .inl ⟨rfl, rfl, rfl, rfl, by simp, fun j hj => setRow_other w g j _ hj⟩⟩
      · simp only [hsize, Nat.mul_one, List.length_map, List.length_replicate, hta] at hst
        simp only [List.map_append, List.map_replicate] at hst ⊢
        simp [Builtin.append_, run_underlying hut, run_underlying hun, sizeOf, typeInfo, zeroValue, hi, hz, hsize, asInt, asIntOf, hwr, hneg, h48i, h0, hroom, hzc, Addr.add_lit, hst]
      · rw [setRow_heap w g _ _ te _ hr]
    · have hge := grownCap_ge w (l.length + n) c te
      have hold : (Builtin.firstCells inf.size l.length (.slice (some ⟨g, 0, none⟩) l.length c)).run P w.drew = .ok (l.map (Value.int k)).toArray w.drew :=
        run_firstCells_some (P := P) w.drew inf.size l.length ⟨g, 0, none⟩ l.length c (l.map (Value.int k)) (by simp [hsize]) (fun j u hu => by
          rw [add_none]
          have := cell_at (w := w) hr (0 + j)
          rw [show w.drew.cell? ⟨g, 0 + j, none⟩ = w.cell? ⟨g, 0 + j, none⟩ from rfl, this, Nat.zero_add, List.getElem?_append_left (List.getElem?_eq_some_iff.1 hu).1]
          exact hu)
      have hrun := Go.Lib.run_append_grow_zeros (P := P) w t u ty te inf z kq kn hut hun hi hz (some ⟨g, 0, none⟩) l.length c (l.map (Value.int k)) hold n (by omega) (by omega) (by omega) (by omega) (by
          have : n * inf.bytes ≤ 1099511627776 * 64 := Nat.mul_le_mul (by omega) hby
          omega)
        (growslice_fits (by omega) (by
            have : (l.length + n) * inf.bytes ≤ 1099511627776 * 64 := Nat.mul_le_mul (by omega) hby
            omega))
      refine ⟨w.heap.size, grownCap w (l.length + n) c te, (Builtin.zeroCells z.cells (grownCap w (l.length + n) c te - (l.length + n))).toList, _, hrun, ?_, ?_, ?_, .inr ⟨rfl, _, rfl⟩⟩
      · rw [show w.heap.size = w.drew.heap.size from rfl, heap_alloc_new w.drew]
        congr 2
        apply Array.ext'
        simp [hzc]
      · simp [hzc]; omega
      · have := grownCap_le_maxLen w (l.length + n) c te (by simp only [maxLen]; omega)
        simp only [maxLen] at this
        omega

theorem appendZ_run (h : HW B ν ρ hp w) {nm t u : Nat} {kn kq : IntKind} {pc : PC} (hd : pcDen ν pc) {s : SV} {n : SI} (hun : P.underlying u = some (.int kn)) {l : List (PC × Option (SV × Heap))} (ha : appendZ P nm pc hp t s n = some l) (ty : TypeId) :
    ∃ r ∈ l, ∃ ν' ρ', Agree nm (nm + 1) ν ν' ρ ρ' ∧ pcDen ν r.1 ∧ ∀ y, r.2 = some y → ∃ w', (Builtin.append_ #[t, u] ty #[s.den ν ρ, .int kq (n.den ν)]).run P w = .ok (y.1.den ν' ρ') w' ∧ HW B ν' ρ' y.2 w' := by
  unfold appendZ at ha
  split at ha
  · rename_i b len cap
    split at ha
    · rename_i e hut
      split at ha
      · rename_i k inf z hue hsz hinf hz
        have hsize : inf.size = 1 := by unfold sizeT at hsz; rw [hinf] at hsz; simpa using hsz
        split at ha
        · rename_i hby
          simp only [Bool.and_eq_true] at hby
          have hby1 := Nat.le_of_ble_eq_true hby.1.1
          have hzb := SV.beq_eq hby.2
          subst hzb
          obtain ⟨i', zv, hi', hzv, hzd⟩ := zeroT_info (ν := ν) (ρ := ρ) hz
          have hii : inf = i' := Option.some.inj (hinf.symm.trans hi')
          subst hii
          have hzc : zv.cells = #[Value.int k 0] := by rw [hzd]; simp [SV.den, SI.den, Value.cells]
          split at ha
          · rename_i bk hg
            split at ha
            · rename_i j l0 c0 ty0 har
              split at ha
              · rename_i hc
                simp only [Bool.and_eq_true] at hc
                obtain ⟨⟨⟨⟨⟨q1, q2⟩, q3⟩, q4⟩, q5⟩, q6⟩ := hc
                have q1 := kBeq_eq q1
                have q2 := Nat.eq_of_beq_eq_true q2
                have q3 := SI.beq_eq q3
                have q4 := SI.beq_eq q4
                subst q1 q2 q3 q4
                cases ha
                obtain ⟨x, hxm, h1, h2⟩ := ways_den (ν := ν) (cs := [SB.mkLe (.lit 0) n, SB.mkLt (SI.mkAdd (SI.mkLen l0) n) (.lit 1099511627776)])
                  ((SV.sl nm (.lit 0) (SI.mkLen (SL.mkApp l0 (.rep n (.lit 0)))) (.var nm), hadd nm (.row k (SL.mkApp l0 (.rep n (.lit 0))) (.var nm) ty0) (herase b hp))) hd
                obtain ⟨rest, hr, hcap, hmax⟩ := asRow_den h (hget_mem hg) har
                have hl0av : l0.av nm (nm + 1) = true := asRow_av har (hav_mem q6 b bk (hget_mem hg)).2
                cases hx2 : x.2 with
                | none => exact ⟨x, hxm, ν, ρ, Agree.refl _ _ _ _, h1, fun y hy => by rw [hx2] at hy; cases hy⟩
                | some y0 =>
                  obtain ⟨rfl, hcs⟩ := h2 y0 hx2
                  have c0' := hcs (SB.mkLe (.lit 0) n) (by simp)
                  have c1 := hcs (SB.mkLt (SI.mkAdd (SI.mkLen l0) n) (.lit 1099511627776)) (by simp)
                  rw [SB.mkLe_den] at c0'
                  rw [SB.mkLt_den, SI.mkAdd_den, SI.mkLen_den] at c1
                  replace c0' : (0 : Int) ≤ n.den ν := of_decide_eq_true c0'
                  replace c1 : ((l0.den ν).length : Int) + n.den ν < 1099511627776 := of_decide_eq_true c1
                  obtain ⟨m, hm⟩ : ∃ m : Nat, n.den ν = (m : Int) := ⟨(n.den ν).toNat, by omega⟩
                  obtain ⟨g', c', rest', w', hrun, hheap, hcap', hmax', hwhere⟩ := row_appendZ (ty := ty) (kq := kq) hut hun hinf hzv hsize hby1 hzc hr rfl (c := (c0.den ν).toNat) (by omega) (by omega) (n := m) (by omega)
                  obtain ⟨ν', hag, hv⟩ : ∃ ν', Agree nm (nm + 1) ν ν' ρ (upd ρ nm g') ∧ ν' = ν.updI nm (c' : Int) := ⟨ν.updI nm (c' : Int), agree_updI nm g' (c' : Int), rfl⟩
                  have hv' : ν'.i nm = (c' : Int) := by rw [hv]; simp [Env.updI]
                  have e1 : upd ρ nm g' nm = g' := by simp [upd]
                  have e2 : n.den ν' = (m : Int) := (SI.den_agree hag n q5).trans hm
                  have e3 : l0.den ν' = l0.den ν := SL.den_agree hag l0 hl0av
                  have hblk : ∀ (ww : World), ww.heap[g']? = w'.heap[g']? → BlkDen B ν' (upd ρ nm g') ww (fun j => j = g') nm (.row k (SL.mkApp l0 (.rep n (.lit 0))) (.var nm) ty0) := by
                    intro ww hww
                    simp only [BlkDen, SL.mkApp_den, SL.den, SI.den, e1, e2, e3, Int.toNat_natCast]
                    refine ⟨⟨rest', by rw [hww]; exact hheap, by simp [hv', hcap'], by rw [hv']; exact hmax'⟩, fun _ => trivial⟩
                  refine ⟨x, hxm, ν', upd ρ nm g', hag, h1, fun y hy => ?_⟩
                  rw [hx2] at hy
                  cases hy
                  refine ⟨w', ?_, ?_⟩
                  · have e5 : (((l0.den ν).length : Int) + (m : Int)).toNat = (l0.den ν).length + m := by omega
                    simp only [SV.den, SI.den, SI.mkLen_den, SL.mkApp_den, SL.den, List.length_append, List.length_replicate, e1, e2, e3, hv', hm, Int.toNat_natCast, Int.toNat_zero]
                    exact hrun
                  · rcases hwhere with ⟨rfl, ho, ht, hu, hs, hk⟩ | ⟨rfl, o, rfl⟩
                    · subst hv
                      exact h.rename (hget_mem hg) (asRow_nores har) q6 ho ht hu hs hk (hblk w' rfl)
                    · have he : HW B ν ρ (herase b hp) w.drew := HW.sub h.drew
                      exact he.new (n := nm) (o := o) hag (hav_erase q6) (hblk _ rfl)
              · cases ha
            · cases ha
          · cases ha
        · cases ha
      · cases ha
    · cases ha
  · cases ha

theorem repL_int (k : IntKind) (x : SI) : ∀ m, denL ν ρ (repL m [SV.int k x]) = (List.replicate m (x.den ν)).map (Value.int k)
  | 0 => rfl
  | m + 1 => by simp [repL, denL, SV.den, repL_int k x m, List.replicate_succ]

theorem makeX_run (h : HW B ν ρ hp w) {nm t : Nat} {pc : PC} (hd : pcDen ν pc) {len cap : SI} {l : List (PC × Option (SV × Heap))} (hl : makeX P nm pc hp t len cap = some l) :
    ∃ r ∈ l, ∃ ν' ρ', Agree nm (nm + 1) ν ν' ρ ρ' ∧ pcDen ν r.1 ∧ ∀ y, r.2 = some y → ∃ w', (Instr.makeSlice t (.int .i64 (len.den ν)) (.int .i64 (cap.den ν))).run P w = .ok (y.1.den ν' ρ') w' ∧ HW B ν' ρ' y.2 w' := by
  unfold makeX at hl
  split at hl
  · rename_i e hu
    split at hl
    · rename_i n z inf hn hz hinf
      obtain ⟨i, zv, hi, hzv, hzd⟩ := zeroT_info (ν := ν) (ρ := ρ) hz
      have hii : inf = i := Option.some.inj (hinf.symm.trans hi)
      subst hii
      have hsz : inf.size = n := by unfold sizeT at hn; rw [hi] at hn; simpa using hn
      split at hl
      · rename_i hc
        simp only [Bool.and_eq_true] at hc
        obtain ⟨⟨⟨⟨q1, q2⟩, q3⟩, q4⟩, q5⟩ := hc
        have q1 := SI.beq_eq q1
        have q2 := Nat.le_of_ble_eq_true q2
        have q3 := Nat.eq_of_beq_eq_true q3
        have q4 := Nat.le_of_ble_eq_true q4
        subst q1
        have hag := agree_upd (ν := ν) (ρ := ρ) nm w.heap.size
        have e1 : upd ρ nm w.heap.size nm = w.heap.size := by simp [upd]
        split at hl
        · rename_i m
          split at hl
          · rename_i hm
            simp only [Bool.and_eq_true] at hm
            have hm1 := Nat.le_of_ble_eq_true hm.1
            have hm2 := Nat.le_of_ble_eq_true hm.2
            cases hl
            refine ⟨_, List.mem_singleton.2 rfl, ν, upd ρ nm w.heap.size, hag, pcDen_nil ν, fun y hy => ?_⟩
            cases hy
            have hb : (inf.bytes : Int) * ((m : Nat) : Int) ≤ 281474976710656 := by
              have : inf.bytes * m ≤ 1024 * 4096 := Nat.mul_le_mul q4 hm2
              have h2 : ((inf.bytes * m : Nat) : Int) ≤ 281474976710656 := by omega
              rwa [Int.natCast_mul] at h2
            have hrun := run_make (P := P) w t e inf zv hu hi hzv .i64 .i64 ((m : Nat) : Int) ((m : Nat) : Int) (by omega) (Int.le_refl _) hb (by omega)
            have hcells : madeCells zv.cells (m * n) = (denL ν ρ (repL m z.cellsOf)).toArray := by
              have := range_rep (ν := ν) (ρ := ρ) z m n q3 q2
              rw [← hzd] at this
              exact this
            simp only [Int.toNat_natCast, hsz, hcells] at hrun
            refine ⟨w.alloc (.cells (denL ν ρ (repL m z.cellsOf)).toArray e), ?_, h.new (n := nm) (b := .cells (repL m z.cellsOf) e true) hag q5 ?_⟩
            · simp only [SV.den, SI.den, e1]
              exact hrun
            · simp only [BlkDen]
              rw [e1]
              refine ⟨?_, fun _ => Iff.rfl⟩
              have hzr : denL ν (upd ρ nm w.heap.size) (repL m z.cellsOf) = denL ν ρ (repL m z.cellsOf) := by
                obtain ⟨i', zv', hi', hzv', hzd'⟩ := zeroT_info (ν := ν) (ρ := upd ρ nm w.heap.size) hz
                have hii' : inf = i' := Option.some.inj (hinf.symm.trans hi')
                subst hii'
                have ez : zv' = zv := Option.some.inj (hzv'.symm.trans hzv)
                have h2 : madeCells zv'.cells (m * n) = (denL ν (upd ρ nm w.heap.size) (repL m z.cellsOf)).toArray := by
                  have := range_rep (ν := ν) (ρ := upd ρ nm w.heap.size) z m n q3 q2
                  rw [← hzd'] at this
                  exact this
                rw [ez, hcells] at h2
                simpa using h2.symm
              rw [hzr]
              exact heap_alloc_new w _
          · cases hl
        · split at hl
          · rename_i hne _ k x _
            split at hl
            · rename_i hav2
              simp only [Bool.and_eq_true] at hav2
              cases hl
              obtain ⟨r, hr, h1, h2⟩ := ways_den (ν := ν) (cs := [SB.mkLe (.lit 0) len, SB.mkLt len (.lit 1073741824)]) (SV.sl nm (.lit 0) (SI.mkNat len) (SI.mkNat len), hadd nm (.row k (.rep len x) (SI.mkNat len) e) hp) hd
              refine ⟨r, hr, ν, upd ρ nm w.heap.size, hag, h1, fun y hy => ?_⟩
              obtain ⟨rfl, hc⟩ := h2 y hy
              have c1 := hc (SB.mkLe (.lit 0) len) (by simp)
              have c2 := hc (SB.mkLt len (.lit 1073741824)) (by simp)
              rw [SB.mkLe_den] at c1
              rw [SB.mkLt_den] at c2
              replace c1 : (0 : Int) ≤ len.den ν := of_decide_eq_true c1
              replace c2 : len.den ν < 1073741824 := of_decide_eq_true c2
              obtain ⟨m, hm⟩ : ∃ m : Nat, len.den ν = (m : Int) := ⟨(len.den ν).toNat, by omega⟩
              have hb : (inf.bytes : Int) * ((m : Nat) : Int) ≤ 281474976710656 := by
                have : inf.bytes * m ≤ 1024 * 1073741824 := Nat.mul_le_mul q4 (by omega)
                have h2 : ((inf.bytes * m : Nat) : Int) ≤ 281474976710656 := by omega
                rwa [Int.natCast_mul] at h2
              have hrun := run_make (P := P) w t e inf zv hu hi hzv .i64 .i64 ((m : Nat) : Int) ((m : Nat) : Int) (by omega) (Int.le_refl _) hb (by omega)
              have hn1 : n = 1 := by simpa [SV.cellsOf] using q3.symm
              subst hn1
              have hcells : madeCells zv.cells (m * 1) = ((List.replicate m (x.den ν)).map (Value.int k)).toArray := by
                have := range_rep (ν := ν) (ρ := ρ) (.int k x) m 1 q3 q2
                rw [← hzd] at this
                rw [← repL_int (ν := ν) (ρ := ρ)]
                exact this
              simp only [Int.toNat_natCast, hsz, hcells] at hrun
              refine ⟨w.alloc (.cells ((List.replicate m (x.den ν)).map (Value.int k)).toArray e), ?_, h.new (n := nm) (b := .row k (.rep len x) (SI.mkNat len) e) hag q5 ?_⟩
              · simp only [SV.den, SI.den, SI.mkNat_den, e1, hm, Int.toNat_natCast]
                exact hrun
              · simp only [BlkDen, SL.den, SI.mkNat_den, hm, Int.toNat_natCast]
                rw [e1]
                refine ⟨⟨[], ?_, by simp, by omega⟩, fun _ => Iff.rfl⟩
                rw [List.append_nil]
                exact heap_alloc_new w _
            · cases hl
          · cases hl
      · cases hl
    · cases hl
  · cases hl

theorem indexX_run {t e n : Nat} {pc : PC} (hd : pcDen ν pc) (hu : P.underlying t = some (.slice e)) (hn : sizeT P e = some n) {b : Nat} {off len i : SI} {l : List (PC × Option SV)} (hl : indexX pc n b off len i = some l) (kk : IntKind) (cap : Nat) (w : World) :
    ∃ r ∈ l, pcDen ν r.1 ∧ ∀ v, r.2 = some v → (Instr.indexAt t (.slice (some ⟨ρ b, (off.den ν).toNat, none⟩) (len.den ν).toNat cap) (.int kk (i.den ν))).run P w = .ok (v.den ν ρ) w := by
  have key : ∀ (o m : Nat) (k : Int), 0 ≤ k → k < (m : Int) → (Instr.indexAt t (.slice (some ⟨ρ b, o, none⟩) m cap) (.int kk k)).run P w = .ok (.pointer (some ⟨ρ b, o + k.toNat * n, none⟩)) w := by
    intro o m k h0 h1
    have hb' : (0 : Int) ≤ k ∧ k < (m : Int) := ⟨h0, h1⟩
    simp only [Instr.indexAt, asIntOf, Sem.run_bind, Sem.run_pure, Result.andThen_ok, run_underlying hu]
    simp only [Sem.run_ite, hb', and_self, if_true, Sem.run_bind, sizeT_run hn, Result.andThen_ok, Sem.run_pure, add_none]
    try (split <;> simp [run_underlying hu])
  unfold indexX at hl
  split at hl
  · rename_i off len k
    split at hl
    · rename_i hc
      have h1 := Nat.le_of_ble_eq_true hc
      cases hl
      refine ⟨_, List.mem_singleton.2 rfl, pcDen_nil ν, fun v hv => ?_⟩
      cases hv
      simp only [SI.den, SV.den]
      have e2 : (Int.ofNat len).toNat = len := rfl
      have e3 : (Int.ofNat off).toNat = off := rfl
      rw [e2, e3, key off len (Int.ofNat k) (Int.natCast_nonneg k) (by show (k : Int) < (len : Int); omega)]
      rfl
    · cases hl
      exact ⟨_, List.mem_singleton.2 rfl, pcDen_nil ν, fun v hv => by cases hv⟩
  · have nonneg3 : ∀ {r : PC × Option SV} {v z : SV}, r.2 = some v → (∀ u, r.2 = some u → u = z ∧ ∀ c ∈ [SB.mkLe (.lit 0) i, SB.mkLt i (SI.mkNat len), SB.mkLe (.lit 0) off], c.den ν = true) → v = z ∧ 0 ≤ i.den ν ∧ i.den ν < ((len.den ν).toNat : Int) ∧ 0 ≤ off.den ν := by
      intro r v z hv h2
      obtain ⟨rfl, hc⟩ := h2 v hv
      have c1 := hc (SB.mkLe (.lit 0) i) (by simp)
      have c2 := hc (SB.mkLt i (SI.mkNat len)) (by simp)
      have c3 := hc (SB.mkLe (.lit 0) off) (by simp)
      rw [SB.mkLe_den] at c1 c3
      rw [SB.mkLt_den, SI.mkNat_den] at c2
      exact ⟨rfl, of_decide_eq_true c1, of_decide_eq_true c2, of_decide_eq_true c3⟩
    split at hl
    · rename_i hc
      have hn1 := Nat.eq_of_beq_eq_true hc
      subst hn1
      cases hl
      obtain ⟨r, hr, h1, h2⟩ := ways_den (ν := ν) (cs := [SB.mkLe (.lit 0) i, SB.mkLt i (SI.mkNat len), SB.mkLe (.lit 0) off]) (SV.ptr b (SI.mkAdd off i)) hd
      refine ⟨r, hr, h1, fun v hv => ?_⟩
      obtain ⟨rfl, c1, c2, c3⟩ := nonneg3 hv h2
      rw [key _ _ _ c1 c2]
      have e : (off.den ν).toNat + (i.den ν).toNat * 1 = (off.den ν + i.den ν).toNat := by omega
      simp only [SV.den, SI.mkAdd_den, e]
    · cases hl
      obtain ⟨r, hr, h1, h2⟩ := ways_den (ν := ν) (cs := [SB.mkLe (.lit 0) i, SB.mkLt i (SI.mkNat len), SB.mkLe (.lit 0) off]) (SV.ptr b (SI.mkAdd off (SI.mkMul i (.lit (.ofNat n))))) hd
      refine ⟨r, hr, h1, fun v hv => ?_⟩
      obtain ⟨rfl, c1, c2, c3⟩ := nonneg3 hv h2
      rw [key _ _ _ c1 c2]
      obtain ⟨q, hq⟩ : ∃ q : Nat, i.den ν = (q : Int) := ⟨(i.den ν).toNat, by omega⟩
      have e : (off.den ν).toNat + q * n = (off.den ν + (q : Int) * (n : Int)).toNat := by
        rw [← Int.natCast_mul]; omega
      simp only [SV.den, SI.mkAdd_den, SI.mkMul_den, SI.den]
      rw [hq]
      simp only [Int.toNat_natCast]
      rw [e]
      rfl

theorem forkX_den {k : SI} : ∀ (c j : Nat) {pc : PC}, pcDen ν pc → ∃ r ∈ forkX k c j pc, pcDen ν r.1 ∧ ∀ m, r.2 = some m → k.den ν = (m : Int) ∧ j ≤ m ∧ m < j + c
  | 0, j, pc, hd => ⟨([], none), by simp [forkX], pcDen_nil ν, fun m h => by cases h⟩
  | c + 1, j, pc, hd => by
    unfold forkX
    have hden : ∀ b, (SB.mkEq k (.lit (.ofNat j))).den ν = b → (b = true → k.den ν = (j : Int)) := by
      intro b hb hbt
      subst hbt
      rw [SB.mkEq_den] at hb
      simpa [SI.den] using hb
    split
    · rename_i hk
      have := hden _ (SB.known_den hd hk) rfl
      exact ⟨([], some j), by simp, pcDen_nil ν, fun m h => by cases h; exact ⟨this, by omega, by omega⟩⟩
    · obtain ⟨r, hr, h1, h2⟩ := forkX_den c (j + 1) hd
      exact ⟨r, hr, h1, fun m hm => by have := h2 m hm; exact ⟨this.1, by omega, by omega⟩⟩
    · cases hq : (SB.mkEq k (.lit (.ofNat j))).den ν with
      | true =>
        have := hden _ hq rfl
        exact ⟨_, List.mem_cons_self .., pcDen_one hq, fun m h => by cases h; exact ⟨this, by omega, by omega⟩⟩
      | false =>
        obtain ⟨r, hr, h1, h2⟩ := forkX_den c (j + 1) (pcDen_cons hq hd)
        exact ⟨_, List.mem_cons_of_mem _ (List.mem_map.2 ⟨r, hr, rfl⟩), pcDen_append h1 (pcDen_one hq), fun m hm => by have := h2 m hm; exact ⟨this.1, by omega, by omega⟩⟩

theorem copyX_run (h : HW B ν ρ hp w) {t u : Nat} {pc : PC} (hd : pcDen ν pc) {d : SV} {nl : SL} {k : IntKind} {e : Nat} {xv : Value} (hut : P.underlying t = some (.slice e)) (hue : P.underlying e = some (.int k))
    (hx : Reads w xv ((nl.den ν).map (Value.int k))) {l : List (PC × Option (SV × Heap))} (ha : copyX P pc hp t d nl = some l) (ty : TypeId) :
    ∃ r ∈ l, pcDen ν r.1 ∧ ∀ y, r.2 = some y → ∃ w', (Builtin.copy_ #[t, u] ty #[d.den ν ρ, xv]).run P w = .ok (y.1.den ν ρ) w' ∧ HW B ν ρ y.2 w' := by
  unfold copyX at ha
  rw [hut] at ha
  simp only [hue] at ha
  split at ha
  · rename_i k' b len cap hk hsz
    cases hk
    split at ha
    · rename_i bk hg
      split at ha
      · rename_i j l0 c0 ty0 har
        split at ha
        · rename_i hc
          simp only [Bool.and_eq_true] at hc
          have q1 := kBeq_eq hc.1
          have q2 := SI.beq_eq hc.2
          subst q1 q2
          obtain ⟨rest, hr, hcap, hmax⟩ := asRow_den h (hget_mem hg) har
          have hs : (P.info? e).map (·.size) = some 1 := hsz
          obtain ⟨xa, n, cx, rfl, hxl, hxr⟩ := hx
          have hn : (nl.den ν).length = n := by simpa using hxl
          -- what is written
          have key : ∀ (cs : List Int), cs = (nl.den ν).take (l0.den ν).length → ∀ (new : SL), new.den ν = cs ++ (l0.den ν).drop cs.length →
              ∃ w', (Builtin.copy_ #[t, u] ty #[(SV.sl b (.lit 0) (SI.mkLen l0) cap).den ν ρ, .slice xa n cx]).run P w = .ok (.int .i64 (cs.length : Int)) w' ∧ HW B ν ρ (hset b (.row j new c0 ty0) hp) w' := by
            intro cs hcs new hnew
            have hcl : cs.length = Nat.min n (l0.den ν).length := by rw [hcs, List.length_take, hn, Nat.min_comm]
            have hlen : (SI.mkLen l0).den ν = ((l0.den ν).length : Int) := SI.mkLen_den ν l0
            by_cases h0 : cs = []
            · subst h0
              have hrun := run_copy_none w t u ty e (some ⟨ρ b, 0, none⟩) xa (l0.den ν).length (cap.den ν).toNat n cx hut hs (by simpa using hcl.symm)
              refine ⟨w, ?_, h.turn (asRow_nores har) (hget_mem hg) rfl rfl rfl rfl (fun _ _ => rfl) ?_⟩
              · simp only [SV.den, SI.den, hlen, Int.toNat_natCast, Int.toNat_zero]
                rw [hrun]; rfl
              · simp only [BlkDen, hnew]
                refine ⟨⟨rest, by simpa using hr, by simpa using hcap, hmax⟩, fun _ => trivial⟩
            · rcases hxr with ⟨hnil, _⟩ | ⟨ad, rfl, hcell⟩
              · exfalso; apply h0; rw [hcs, List.map_eq_nil_iff.1 hnil]; simp
              · have hrun := run_copy_row P w t u ty e (ρ b) 0 (l0.den ν).length (cap.den ν).toNat ad n cx _ ty0 (cs.map (Value.int j)) hut hs hr (by simpa using hcl)
                  (fun i v hi => by
                    rw [hcs, List.getElem?_map, List.getElem?_take] at hi
                    refine hcell i v ?_
                    rw [List.getElem?_map]
                    split at hi
                    · exact hi
                    · cases hi) (by rw [List.length_map, hcl]; simp; have := Nat.min_le_right n (l0.den ν).length; simp only [Nat.min_def] at *; omega) (fun v hv => by obtain ⟨y, _, rfl⟩ := List.mem_map.1 hv; rfl)
                have hle : cs.length ≤ (l0.den ν).length := by rw [hcl]; exact Nat.min_le_right _ _
                have hcells : ((l0.den ν).map (Value.int j) ++ rest).take 0 ++ cs.map (Value.int j) ++ ((l0.den ν).map (Value.int j) ++ rest).drop (0 + (cs.map (Value.int j)).length) = (new.den ν).map (Value.int j) ++ rest := by
                  rw [hnew, Nat.zero_add, List.length_map, List.drop_append_of_le_length (by simpa using hle)]
                  simp
                refine ⟨_, ?_, h.turn (asRow_nores har) (hget_mem hg) (w' := w.setRow (ρ b) ((new.den ν).map (Value.int j) ++ rest).toArray) rfl rfl rfl (by simp) (fun q hq => setRow_other w (ρ b) q _ hq) ?_⟩
                · simp only [SV.den, SI.den, hlen, Int.toNat_natCast, Int.toNat_zero]
                  rw [hrun, ← hcells]
                  simp only [List.length_map, goInt]
                · simp only [BlkDen]
                  refine ⟨⟨rest, setRow_heap w (ρ b) _ _ ty0 _ hr, ?_, hmax⟩, fun _ => trivial⟩
                  rw [hnew, List.length_append, List.length_drop]
                  omega
          have hlen : (SI.mkLen l0).den ν = ((l0.den ν).length : Int) := SI.mkLen_den ν l0
          have hyes : (SB.mkLe (SI.mkLen nl) (SI.mkLen l0)).den ν = true → ∃ w', (Builtin.copy_ #[t, u] ty #[(SV.sl b (.lit 0) (SI.mkLen l0) cap).den ν ρ, .slice xa n cx]).run P w = .ok ((SV.int .i64 (SI.mkLen nl)).den ν ρ) w' ∧ HW B ν ρ (hset b (.row j (SL.mkApp nl (SL.mkDrop l0 (SI.mkLen nl))) c0 ty0) hp) w' := by
            intro hq
            rw [SB.mkLe_den, SI.mkLen_den, SI.mkLen_den] at hq
            have hq := of_decide_eq_true hq
            have := key (nl.den ν) (by rw [List.take_of_length_le (by omega)]) (SL.mkApp nl (SL.mkDrop l0 (SI.mkLen nl))) (by rw [SL.mkApp_den, SL.mkDrop_den, SI.mkLen_den]; simp)
            simpa [SV.den, SI.mkLen_den] using this
          have hno : (SB.mkLe (SI.mkLen nl) (SI.mkLen l0)).den ν = false → ∃ w', (Builtin.copy_ #[t, u] ty #[(SV.sl b (.lit 0) (SI.mkLen l0) cap).den ν ρ, .slice xa n cx]).run P w = .ok ((SV.int .i64 (SI.mkLen l0)).den ν ρ) w' ∧ HW B ν ρ (hset b (.row j (.take nl (SI.mkLen l0)) c0 ty0) hp) w' := by
            intro hq
            rw [SB.mkLe_den, SI.mkLen_den, SI.mkLen_den] at hq
            have hq := of_decide_eq_false hq
            have hl2 : ((nl.den ν).take (l0.den ν).length).length = (l0.den ν).length := by rw [List.length_take]; omega
            have := key _ rfl (.take nl (SI.mkLen l0)) (by rw [hl2]; simp [SL.den, SI.mkLen_den])
            rw [hl2] at this
            simpa [SV.den, SI.mkLen_den] using this
          split at ha
          · rename_i hk
            cases ha
            exact ⟨_, List.mem_singleton.2 rfl, pcDen_nil ν, fun y hy => by cases hy; exact hyes (SB.known_den hd hk)⟩
          · rename_i hk
            cases ha
            exact ⟨_, List.mem_singleton.2 rfl, pcDen_nil ν, fun y hy => by cases hy; exact hno (SB.known_den hd hk)⟩
          · cases ha
            cases hq : (SB.mkLe (SI.mkLen nl) (SI.mkLen l0)).den ν with
            | true => exact ⟨_, List.mem_cons_self .., pcDen_asm1 hq, fun y hy => by cases hy; exact hyes hq⟩
            | false => exact ⟨_, List.mem_cons_of_mem _ (List.mem_singleton.2 rfl), pcDen_asm1 hq, fun y hy => by cases hy; exact hno hq⟩
        · cases ha
      · cases ha
    · cases ha
  · cases ha
end
end Go.Sy
end

section
namespace Go.Sy
open Go

section
variable {P : Program} {G : Type} {B : Base} {ν : Env G} {ρ : Nat → Nat} {hp : Heap} {w : World}

def OutOK (P : Program) (B : Base) (o : Oper) (a : Act) (w : World) (hp : Heap) (ν' : Env G) (ρ' : Nat → Nat) : ORes → Prop
  | .val v hp' => ∃ w', (execOp a.eval o).run P w = .ok (.value (v.den ν' ρ')) w' ∧ HW B ν' ρ' hp' w'
  | .skip hp' => ∃ w', (execOp a.eval o).run P w = .ok .skip w' ∧ HW B ν' ρ' hp' w'
  | .call f args => (execOp a.eval o).run P w = .ok (.enter f (denL ν' ρ' args).toArray) w ∧ HW B ν' ρ' hp w
  | .bad => True
  | .fail => True

def OutsOK (P : Program) (B : Base) (o : Oper) (a : Act) (w : World) (hp : Heap) (nm : Nat) (ν : Env G) (ρ : Nat → Nat) (outs : List (PC × ORes)) : Prop :=
  ∃ r ∈ outs, ∃ ν' ρ', Agree nm (nm + 1) ν ν' ρ ρ' ∧ (makes o.op = false → ν' = ν ∧ ρ' = ρ) ∧ pcDen ν r.1 ∧ OutOK P B o a w hp ν' ρ' r.2

/-- What the program owes. -/
structure PR (P : Program) : Prop where
  mixed : P.follows .mixedOrders = true
  ng : ∀ (f : Nat) (fn : Func), P.funcs[f]? = some fn → (fn.name == "runtime.NumGoroutine") = false

theorem out_same {o : Oper} {a : Act} {nm : Nat} {outs : List (PC × ORes)} (r : PC × ORes) (hr : r ∈ outs) (hp' : pcDen ν r.1) (h : OutOK P B o a w hp ν ρ r.2) : OutsOK P B o a w hp nm ν ρ outs :=
  ⟨r, hr, ν, ρ, Agree.refl _ _ _ _, fun _ => ⟨rfl, rfl⟩, hp', h⟩

theorem out_one {o : Oper} {a : Act} {nm : Nat} (v : SV) (hw : HW B ν ρ hp w) (h : (execOp a.eval o).run P w = .ok (.value (v.den ν ρ)) w) : OutsOK P B o a w hp nm ν ρ [([], .val v hp)] :=
  out_same ([], .val v hp) (by simp) (pcDen_nil ν) ⟨w, h, hw⟩

theorem out_mk {o : Oper} {a : Act} {nm e : Nat} {cs : List SV} (v : SV) (hw : HW B ν ρ hp w) (hc : (avL nm (nm + 1) cs && hav nm (nm + 1) hp) = true) (hmk : makes o.op = true)
    (h : (execOp a.eval o).run P w = .ok (.value (v.den ν (upd ρ nm w.heap.size))) (w.alloc (.cells (denL ν ρ cs).toArray e))) : OutsOK P B o a w hp nm ν ρ [([], .val v (hadd nm (.cells cs e true) hp))] := by
  simp only [Bool.and_eq_true] at hc
  have hag := agree_upd (ν := ν) (ρ := ρ) nm w.heap.size
  refine ⟨([], .val v (hadd nm (.cells cs e true) hp)), by simp, ν, upd ρ nm w.heap.size, hag, fun h => (by rw [hmk] at h; cases h), pcDen_nil ν, ⟨_, h, hw.new hag hc.2 ?_⟩⟩
  simp only [BlkDen]
  rw [show upd ρ nm w.heap.size nm = w.heap.size by simp [upd], denL_agree hag cs hc.1]
  exact ⟨heap_alloc_new w _, fun _ => Iff.rfl⟩

theorem evalL_toArray {fr : List SV} {a : Act} (hf : FR ν ρ fr a) {xs : Array Operand} {vs : List SV} (h : evalOL fr xs.toList = some vs) : xs.map a.eval = (denL ν ρ vs).toArray := by
  apply Array.ext'
  rw [Array.toList_map]
  exact hf.evalL h

theorem evalP_toArray {fr : List SV} {a : Act} (hf : FR ν ρ fr a) {ps : Array (Nat × Operand)} {parts : List (Nat × SV)} (h : evalP fr ps.toList = some parts) :
    (ps.map fun (x : Nat × Operand) => (x.1, a.eval x.2)) = (denP ν ρ parts).toArray := by
  apply Array.ext'
  rw [Array.toList_map]
  exact evalP_den hf h

theorem optL_den {fr : List SV} {a : Act} (hf : FR ν ρ fr a) {x : Option Operand} {v : Option SV} (h : optL fr x = some v) : x.map a.eval = v.map (·.den ν ρ) := by
  unfold optL at h
  split at h
  · cases h; rfl
  · simp only [Option.map_eq_some_iff] at h
    obtain ⟨u, hu, rfl⟩ := h
    simp [hf.eval hu]

theorem out_V {o : Oper} {a : Act} {nm : Nat} {l : List (PC × Option SV)} (hw : HW B ν ρ hp w) {x : PC × Option SV} (hx : x ∈ l) (hd : pcDen ν x.1) (h : ∀ v, x.2 = some v → (execOp a.eval o).run P w = .ok (.value (v.den ν ρ)) w) :
    OutsOK P B o a w hp nm ν ρ (outsV hp l) := by
  refine out_same _ (List.mem_map.2 ⟨x, hx, rfl⟩) hd ?_
  cases hx2 : x.2 with
  | none => trivial
  | some v => exact ⟨w, h v hx2, hw⟩

theorem out_H {o : Oper} {a : Act} {nm : Nat} {l : List (PC × Option Heap)} {x : PC × Option Heap} (hx : x ∈ l) (hd : pcDen ν x.1) (h : ∀ hp', x.2 = some hp' → ∃ w', (execOp a.eval o).run P w = .ok .skip w' ∧ HW B ν ρ hp' w') :
    OutsOK P B o a w hp nm ν ρ (outsH l) := by
  refine out_same _ (List.mem_map.2 ⟨x, hx, rfl⟩) hd ?_
  cases hx2 : x.2 with
  | none => trivial
  | some v => exact h v hx2

theorem out_VH {o : Oper} {a : Act} {nm : Nat} {l : List (PC × Option (SV × Heap))} (hmk : makes o.op = true) {x : PC × Option (SV × Heap)} (hx : x ∈ l) {ν' : Env G} {ρ' : Nat → Nat} (hag : Agree nm (nm + 1) ν ν' ρ ρ') (hd : pcDen ν x.1)
    (h : ∀ y, x.2 = some y → ∃ w', (execOp a.eval o).run P w = .ok (.value (y.1.den ν' ρ')) w' ∧ HW B ν' ρ' y.2 w') :
    OutsOK P B o a w hp nm ν ρ (outsVH l) := by
  refine ⟨_, List.mem_map.2 ⟨x, hx, rfl⟩, ν', ρ', hag, fun h => (by rw [hmk] at h; cases h), hd, ?_⟩
  cases hx2 : x.2 with
  | none => trivial
  | some v => exact h v hx2

theorem opX_sound (pr : PR P) {nm : Nat} {fr : List SV} {pc : PC} {o : Oper} {a : Act} {outs : List (PC × ORes)} (hx : opX P nm fr pc hp o = some outs) (hf : FR ν ρ fr a) (hpc : pcDen ν pc) (hw : HW B ν ρ hp w) :
    OutsOK P B o a w hp nm ν ρ outs := by
  obtain ⟨dst, op, type, pos, after, guard⟩ := o
  unfold opX at hx
  cases op <;> simp only at hx
  case move x =>
    simp only [Option.map_eq_some_iff] at hx
    obtain ⟨v, hv, rfl⟩ := hx
    exact out_one v hw (by simp [execOp, hf.eval hv])
  case assign x =>
    simp only [Option.map_eq_some_iff] at hx
    obtain ⟨v, hv, rfl⟩ := hx
    exact out_one v hw (by simp [execOp, hf.eval hv])
  case pick c x y =>
    split at hx
    · rename_i e hc
      have ec := hf.eval hc
      split at hx
      · rename_i hk
        simp only [Option.map_eq_some_iff] at hx
        obtain ⟨v, hv, rfl⟩ := hx
        have := SB.known_den hpc hk
        exact out_one v hw (by simp [execOp, hf.eval hv, ec, SV.den, asBool, this])
      · rename_i hk
        simp only [Option.map_eq_some_iff] at hx
        obtain ⟨v, hv, rfl⟩ := hx
        have := SB.known_den hpc hk
        exact out_one v hw (by simp [execOp, hf.eval hv, ec, SV.den, asBool, this])
      · split at hx
        · rename_i u v hu hv
          cases hx
          cases hq : e.den ν
          · exact out_same ([asm e false], .val v hp) (by simp) (pcDen_asm1 hq) ⟨w, by simp [execOp, hf.eval hv, ec, SV.den, asBool, hq], hw⟩
          · exact out_same ([asm e true], .val u hp) (by simp) (pcDen_asm1 hq) ⟨w, by simp [execOp, hf.eval hu, ec, SV.den, asBool, hq], hw⟩
        · cases hx
    · cases hx
  case alloc e =>
    split at hx
    · rename_i z hz
      split at hx
      · rename_i hc
        cases hx
        refine out_mk _ hw hc rfl ?_
        have hzr := zeroT_run hz ν ρ w
        simp only [execOp, Instr.alloc, newVar, newRow, SV.den, SI.den]
        rw [← cells_den]
        simp [hzr, upd]
      · cases hx
    · cases hx
  case box e x =>
    split at hx
    · rename_i v hv
      split at hx
      · rename_i hc
        cases hx
        refine out_mk _ hw hc rfl ?_
        simp only [execOp, Instr.box, newVar, newRow, SV.den, SI.den, hf.eval hv]
        rw [← cells_den]
        simp [upd]
      · cases hx
    · cases hx
  case build t ps =>
    split at hx
    · rename_i parts hparts
      simp only [Option.map_eq_some_iff] at hx
      obtain ⟨v, hv, rfl⟩ := hx
      refine out_one v hw ?_
      have := buildX_run (ν := ν) (ρ := ρ) hv w
      rw [← evalP_toArray hf hparts] at this
      simp only [execOp, Sem.run_bind, this, Result.andThen_ok, Sem.run_pure]
    · cases hx
  case buildSlice t len ps =>
    split at hx
    · rename_i parts hparts
      split at hx
      · rename_i cs e hcs
        split at hx
        · rename_i hc
          cases hx
          refine out_mk _ hw hc rfl ?_
          have := buildSliceX_run (ν := ν) (ρ := ρ) hcs w
          rw [← evalP_toArray hf hparts] at this
          simp only [execOp, Sem.run_bind, this, Result.andThen_ok, Sem.run_pure]
          simp [SV.den, SI.den, upd]
        · cases hx
      · cases hx
    · cases hx
  case load t x =>
    split at hx
    · rename_i p hp'
      simp only [Option.map_eq_some_iff] at hx
      obtain ⟨l, hl, rfl⟩ := hx
      obtain ⟨r, hr, hd, hrun⟩ := loadX_run hw hpc hl
      exact out_V hw hr hd (fun v hv => by simp [execOp, hf.eval hp', hrun v hv])
    · cases hx
  case store t x y =>
    split at hx
    · rename_i p v hp' hv
      simp only [Option.map_eq_some_iff] at hx
      obtain ⟨l, hl, rfl⟩ := hx
      obtain ⟨r, hr, hd, hrun⟩ := storeX_run hw hpc hl
      refine out_H hr hd (fun h' hh => ?_)
      obtain ⟨w', hrn, hw'⟩ := hrun h' hh
      exact ⟨w', by simp [execOp, hf.eval hp', hf.eval hv, hrn], hw'⟩
    · cases hx
  case nilCheck x =>
    split at hx
    · rename_i b off hv
      cases hx
      exact out_one _ hw (by simp [execOp, hf.eval hv, SV.den])
    · rename_i f p c hv
      cases hx
      exact out_one _ hw (by simp [execOp, hf.eval hv, SV.den])
    · rename_i t v hv
      cases hx
      exact out_one _ hw (by simp [execOp, hf.eval hv, SV.den])
    · cases hx
      exact out_same ([], .bad) (by simp) (pcDen_nil ν) trivial
    · cases hx
      exact out_same ([], .bad) (by simp) (pcDen_nil ν) trivial
    · cases hx
  case binOp op t x y yt =>
    split at hx
    · rename_i u v hu hv
      simp only [Option.map_eq_some_iff] at hx
      obtain ⟨l, hl, rfl⟩ := hx
      obtain ⟨r, hr, hd, hrun⟩ := binX_run (ρ := ρ) hpc hl
      refine out_V hw hr hd (fun z hr2 => ?_)
      · have := hrun z hr2 x y w
        simp only [binRun] at this
        simp only [execOp, hf.eval hu, hf.eval hv, Sem.run_bind, Result.andThen_ok] at this ⊢
        cases hg : (eqGuard op t x y (u.den ν ρ) (v.den ν ρ)).run P w with
        | ok _ w1 =>
          simp only [hg, Result.andThen_ok] at this ⊢
          simp [this]
        | halt _ _ => simp [hg] at this
    · cases hx
  case unOp op t x =>
    split at hx
    · rename_i u hu
      simp only [Option.map_eq_some_iff] at hx
      obtain ⟨v, hv, rfl⟩ := hx
      exact out_one v hw (by simp [execOp, hf.eval hu, unX_run hv])
    · cases hx
  case convert s d x =>
    split at hx
    · rename_i k' e k1 k2 hv hs hd
      cases hx
      exact out_one _ hw (by simp [execOp, hf.eval hv, SV.den, convert, run_underlying hs, run_underlying hd, Conv.intToInt, SI.mkWrap_den])
    · cases hx
  case makeFunc fn first caps =>
    split at hx
    · rename_i f u c hu hc
      cases hx
      refine out_one _ hw ?_
      simp only [execOp, Instr.makeFunc, evalL_toArray hf hu, evalL_toArray hf hc, SV.den, Sem.run_bind, Sem.run_pure, Result.andThen_ok]
    · cases hx
  case extract x i =>
    split at hx
    · rename_i l hl
      simp only [Option.map_eq_some_iff] at hx
      obtain ⟨v, hv, rfl⟩ := hx
      exact out_one v hw (by simp [execOp, hf.eval hl, SV.den, Instr.extract, denL_get, hv])
    · cases hx
  case fieldAddr s x f =>
    split at hx
    · rename_i b off fs hv hs
      split at hx
      · rename_i g hg
        split at hx
        · rename_i n hn
          split at hx
          · rename_i h1
            simp only [Bool.and_eq_true] at h1
            have h0 := SI.nn_den hpc off h1.2
            have h1 := Nat.le_of_ble_eq_true h1.1
            cases hx
            refine out_one _ hw ?_
            have hn0 : n ≠ 0 := by omega
            have e : (off.den ν).toNat + g.offset = (off.den ν + Int.ofNat g.offset).toNat := by
              have : Int.ofNat g.offset = (g.offset : Int) := rfl
              rw [this]; omega
            simp [execOp, hf.eval hv, SV.den, SI.den, SI.mkAdd_den, Instr.fieldAt, run_underlying hs, hg, Instr.sureAddr, fieldPlace, sizeT_run hn, hn0, add_none, e]
          · cases hx
        · cases hx
      · cases hx
    · cases hx
  case field s x f =>
    split at hx
    · rename_i cs fs hv hs
      split at hx
      · rename_i g hg
        split at hx
        · rename_i n ha hn
          split at hx
          · rename_i hle
            have hle := Nat.le_of_ble_eq_true hle
            cases hx
            refine out_one _ hw ?_
            simp [execOp, hf.eval hv, SV.den, Instr.field, run_underlying hs, hg, asAgg, part, aggT_run ha, sizeT_run hn]
            rw [denL_take, denL_drop]
          · cases hx
        · rename_i ha
          simp only [Option.map_eq_some_iff] at hx
          obtain ⟨v, hv2, rfl⟩ := hx
          refine out_one _ hw ?_
          simp [execOp, hf.eval hv, SV.den, Instr.field, run_underlying hs, hg, asAgg, part, aggT_run ha, denL_get, hv2]
        · cases hx
      · cases hx
    · cases hx
  case indexAddr t x i =>
    split at hx
    · rename_i b off len cap kk k e hv hi hu
      split at hx
      · rename_i n hn
        simp only [Option.map_eq_some_iff] at hx
        obtain ⟨l, hl, rfl⟩ := hx
        obtain ⟨r, hr, hd, hrun⟩ := indexX_run (ν := ν) (ρ := ρ) hpc hu hn hl kk (cap.den ν).toNat w
        exact out_V hw hr hd (fun v hv2 => by simp only [execOp, hf.eval hv, hf.eval hi, SV.den, Sem.run_bind, hrun v hv2, Result.andThen_ok, Sem.run_pure])
      · cases hx
    · rename_i b off kk k len e hv hi hu
      split at hx
      · rename_i n hn
        split at hx
        · rename_i hc
          have h1 := Nat.le_of_ble_eq_true hc
          cases hx
          refine out_one _ hw ?_
          have hb' : (0 : Int) ≤ Int.ofNat k ∧ Int.ofNat k < (len : Int) := ⟨Int.natCast_nonneg k, by show (k : Int) < (len : Int); omega⟩
          simp only [execOp, hf.eval hv, hf.eval hi, SV.den, SI.den, Instr.indexAt, asIntOf, Sem.run_bind, Sem.run_pure, Result.andThen_ok, run_underlying hu, Instr.sureAddr]
          simp only [Sem.run_ite, hb', and_self, if_true, Sem.run_bind, sizeT_run hn, Result.andThen_ok, Sem.run_pure, add_none]
          have ht : (Int.ofNat k).toNat = k := rfl
          have ho : (Int.ofNat off).toNat = off := rfl
          simp only [ht, ho, Int.toNat_natCast]
          try (split <;> simp [run_underlying hu])
        · cases hx
      · cases hx
    · rename_i b off kk k len e hno hv hi hu
      split at hx
      · rename_i n hn
        split at hx
        · cases hx
          obtain ⟨r, hr, hd, hrun⟩ := forkX_den (ν := ν) (k := k) len 0 hpc
          refine out_same _ (List.mem_map.2 ⟨r, hr, rfl⟩) hd ?_
          cases hr2 : r.2 with
          | none => trivial
          | some m =>
            obtain ⟨hm, _, hlt⟩ := hrun m hr2
            refine ⟨w, ?_, hw⟩
            have hb' : (0 : Int) ≤ (m : Int) ∧ (m : Int) < (len : Int) := ⟨by omega, by omega⟩
            simp only [execOp, hf.eval hv, hf.eval hi, SV.den, SI.den, hm, Instr.indexAt, asIntOf, Sem.run_bind, Sem.run_pure, Result.andThen_ok, run_underlying hu, Instr.sureAddr]
            simp only [Sem.run_ite, hb', and_self, if_true, Sem.run_bind, sizeT_run hn, Result.andThen_ok, Sem.run_pure, add_none]
            have ht : (Int.ofNat (off + m * n)).toNat = off + m * n := rfl
            have ho : (Int.ofNat off).toNat = off := rfl
            simp only [ht, ho, Int.toNat_natCast]
            try (split <;> simp [run_underlying hu])
        · cases hx
      · cases hx
    · cases hx
      exact out_same ([], .bad) (by simp) (pcDen_nil ν) trivial
    · cases hx
      exact out_same ([], .bad) (by simp) (pcDen_nil ν) trivial
    · cases hx
  case makeSlice t l c =>
    split at hx
    · rename_i x y hx1 hy1
      simp only [Option.map_eq_some_iff] at hx
      obtain ⟨l', hl, rfl⟩ := hx
      obtain ⟨r, hr, ν', ρ', hag, hd, hrun⟩ := makeX_run hw hpc hl
      refine out_VH rfl hr hag hd (fun y hy => ?_)
      obtain ⟨w', h1, h2⟩ := hrun y hy
      exact ⟨w', by simp only [execOp, hf.eval hx1, hf.eval hy1, SV.den, Sem.run_bind, h1, Result.andThen_ok, Sem.run_pure], h2⟩
    · cases hx
  case slice t x lo hi mx =>
    split at hx
    · rename_i v l h m hv hl hh hm
      simp only [Option.map_eq_some_iff] at hx
      obtain ⟨u, hu, rfl⟩ := hx
      refine out_one u hw ?_
      have := sliceX_run (ν := ν) (ρ := ρ) hu w
      simp [execOp, hf.eval hv, optL_den hf hl, optL_den hf hh, optL_den hf hm, this]
    · cases hx
  case call c =>
    obtain ⟨callee, args, argTypes⟩ := c
    cases callee with
    | invoke _ _ => simp at hx
    | value f =>
      simp only at hx
      split at hx
      · rename_i g first caps as hg has
        split at hx
        · rename_i fn hfn
          split at hx
          · rename_i hb
            cases hx
            refine out_same ([], .call g (first ++ as ++ caps)) (by simp) (pcDen_nil ν) ⟨?_, hw⟩
            have hng := pr.ng g fn hfn
            have hb' : fn.body.isNone = false := by cases h : fn.body <;> simp_all
            simp only [execOp, resolve, hf.eval hg, SV.den, Deferred.ofValue, Sem.run_bind, Sem.run_pure, Result.andThen_ok, invoke, evalL_toArray hf has, callFunc, run_program, hfn, hng, hb']
            simp [denL_append]
          · cases hx
        · cases hx
      · cases hx
        exact out_same ([], .bad) (by simp) (pcDen_nil ν) trivial
      · cases hx
    | builtin b =>
      cases b <;> simp only at hx <;> try (cases hx; done)
      case copy =>
        split at hx
        · rename_i d x t u hv ht
          split at hx
          · rename_i e hu
            have hargs := evalL_toArray hf hv
            have ht' : argTypes = #[t, u] := by apply Array.ext'; simpa using ht
            simp only [denL] at hargs
            split at hx
            · rename_i k hue
              split at hx
              · rename_i ls hls
                cases hx
                obtain ⟨r, hr, hd, hrd⟩ := listX_den hw hpc hls
                cases hr2 : r.2 with
                | none => exact out_same (r.1, .bad) (List.mem_flatMap.2 ⟨r, hr, by simp [hr2]⟩) hd trivial
                | some nl =>
                  have hreads := hrd nl hr2
                  cases happ : copyX P (r.1 ++ pc) hp t d nl with
                  | none => exact out_same ([], .fail) (List.mem_flatMap.2 ⟨r, hr, by simp [hr2, happ]⟩) (pcDen_nil ν) trivial
                  | some l =>
                    obtain ⟨q, hq, hqd, hrun⟩ := copyX_run (u := u) hw (pcDen_append hd hpc) hu hue hreads happ type
                    refine out_same (q.1 ++ r.1, match q.2 with | some v => .val v.1 v.2 | none => .bad) (List.mem_flatMap.2 ⟨r, hr, ?_⟩) (pcDen_append hqd hd) ?_
                    · simp only [hr2, happ]
                      exact List.mem_map.2 ⟨_, List.mem_map.2 ⟨q, hq, rfl⟩, rfl⟩
                    · cases hq2 : q.2 with
                      | none => trivial
                      | some y =>
                        obtain ⟨w', h1, h2⟩ := hrun y hq2
                        refine ⟨w', ?_, h2⟩
                        simp only [execOp, resolve, Sem.run_bind, Sem.run_pure, Result.andThen_ok, invoke, builtin, hargs, ht', h1]
              · cases hx
            · cases hx
          · cases hx
        · cases hx
      case append =>
        split at hx
        · rename_i s x t u hv ht
          split at hx
          · rename_i e hu
            split at hx
            · rename_i htu
              have htu := Nat.eq_of_beq_eq_true htu
              subst htu
              have hargs := evalL_toArray hf hv
              have ht' : argTypes = #[t, t] := by apply Array.ext'; simpa using ht
              simp only [denL] at hargs
              have hex : execOp a.eval ⟨dst, .call ⟨.builtin .append, args, argTypes⟩, type, pos, after, guard⟩ = execOp a.eval ⟨dst, .call ⟨.builtin .append, args, argTypes⟩, type, pos, after, guard⟩ := rfl
              split at hx
              · rename_i k hue
                split at hx
                · rename_i ls hls
                  cases hx
                  obtain ⟨r, hr, hd, hrd⟩ := listX_den hw hpc hls
                  cases hr2 : r.2 with
                  | none => exact out_same (r.1, .bad) (List.mem_flatMap.2 ⟨r, hr, by simp [hr2]⟩) hd trivial
                  | some nl =>
                    have hreads := hrd nl hr2
                    cases happ : appendR P nm (r.1 ++ pc) hp t s nl with
                    | none => exact out_same ([], .fail) (List.mem_flatMap.2 ⟨r, hr, by simp [hr2, happ]⟩) (pcDen_nil ν) trivial
                    | some l =>
                      obtain ⟨q, hq, ν', ρ', hag, hqd, hrun⟩ := appendR_run hw (pcDen_append hd hpc) hu hue hreads happ type
                      refine ⟨(q.1 ++ r.1, match q.2 with | some v => .val v.1 v.2 | none => .bad), List.mem_flatMap.2 ⟨r, hr, ?_⟩, ν', ρ', hag, fun h => (by simp [makes] at h), pcDen_append hqd hd, ?_⟩
                      · simp only [hr2, happ]
                        exact List.mem_map.2 ⟨_, List.mem_map.2 ⟨q, hq, rfl⟩, rfl⟩
                      · cases hq2 : q.2 with
                        | none => trivial
                        | some y =>
                          obtain ⟨w', h1, h2⟩ := hrun y hq2
                          refine ⟨w', ?_, h2⟩
                          simp only [execOp, resolve, Sem.run_bind, Sem.run_pure, Result.andThen_ok, invoke, builtin, hargs, ht', h1]
                · cases hx
              · split at hx
                · rename_i hav'
                  split at hx
                  · rename_i v h' happ
                    cases hx
                    obtain ⟨ν', ρ', w', hag, hr, hw'⟩ := appendX_run hw hav' happ type
                    refine ⟨([], .val v h'), by simp, ν', ρ', hag, fun h => (by simp [makes] at h), pcDen_nil ν, ⟨w', ?_, hw'⟩⟩
                    simp only [execOp, resolve, Sem.run_bind, Sem.run_pure, Result.andThen_ok, invoke, builtin, hargs, ht', hr]
                  · cases hx
                · cases hx
            · cases hx
          · rename_i kn hun
            split at hx
            · rename_i kq n
              simp only [Option.map_eq_some_iff] at hx
              obtain ⟨l, happ, rfl⟩ := hx
              have hargs := evalL_toArray hf hv
              have ht' : argTypes = #[t, u] := by apply Array.ext'; simpa using ht
              simp only [denL] at hargs
              obtain ⟨q, hq, ν', ρ', hag, hqd, hrun⟩ := appendZ_run (kq := kq) hw hpc hun happ type
              refine ⟨(q.1, match q.2 with | some v => .val v.1 v.2 | none => .bad), List.mem_map.2 ⟨q, hq, rfl⟩, ν', ρ', hag, fun h => (by simp [makes] at h), hqd, ?_⟩
              cases hq2 : q.2 with
              | none => trivial
              | some y =>
                obtain ⟨w', h1, h2⟩ := hrun y hq2
                refine ⟨w', ?_, h2⟩
                simp only [execOp, resolve, Sem.run_bind, Sem.run_pure, Result.andThen_ok, invoke, builtin, hargs, ht']
                simp only [SV.den] at h1 ⊢
                simp only [h1, Result.andThen_ok]
            · cases hx
          · cases hx
        · cases hx
      case len =>
        split at hx
        · rename_i t hv ht
          split at hx
          · rename_i e hu
            cases hx
            refine out_one _ hw ?_
            have := evalL_toArray hf hv
            simp only [execOp, resolve, Sem.run_bind, Sem.run_pure, Result.andThen_ok, invoke, builtin, this, Builtin.len_, ht]
            simp [denL, SV.den, run_underlying hu, goInt, SI.den]
          · cases hx
        · rename_i i t hv ht
          split at hx
          · rename_i e hu
            cases hx
            refine out_one _ hw ?_
            have := evalL_toArray hf hv
            simp only [execOp, resolve, Sem.run_bind, Sem.run_pure, Result.andThen_ok, invoke, builtin, this, Builtin.len_, ht]
            simp [denL, SV.den, run_underlying hu, goInt, SI.den]
          · cases hx
        · rename_i b o n c t hv ht
          split at hx
          · rename_i e hu
            cases hx
            refine out_one _ hw ?_
            have := evalL_toArray hf hv
            simp only [execOp, resolve, Sem.run_bind, Sem.run_pure, Result.andThen_ok, invoke, builtin, this, Builtin.len_, ht]
            simp [denL, SV.den, run_underlying hu, goInt, SI.mkNat_den]
          · cases hx
        · cases hx
  all_goals (cases hx)
end
end Go.Sy
end

section
namespace Go.Sy
open Go

section
variable {P : Program} {G : Type} {B : Base}

theorem bindL_mem {α β : Type} {f : α → Option (List β)} : ∀ {l : List α} {r : List β}, bindL f l = some r → ∀ x ∈ l, ∃ y, f x = some y ∧ ∀ z ∈ y, z ∈ r
  | [], _, _, x, hx => by cases hx
  | a :: l, r, h, x, hx => by
    unfold bindL at h
    split at h
    · rename_i p q hp hq
      cases h
      rcases List.mem_cons.1 hx with rfl | hx
      · exact ⟨p, hp, fun z hz => List.mem_append_left _ hz⟩
      · obtain ⟨y, hy, hm⟩ := bindL_mem hq x hx
        exact ⟨y, hy, fun z hz => List.mem_append_right _ (hm z hz)⟩
    · cases h

theorem pcB_eq : ∀ {a b : PC}, leafBeq.pcB a b = true → a = b
  | [], [], _ => rfl
  | (c, x) :: r, (d, y) :: s, h => by
    simp only [leafBeq.pcB, Bool.and_eq_true] at h
    rw [SB.beq_eq h.1.1, bBeq_eq h.1.2, pcB_eq h.2]
  | [], _ :: _, h => by simp [leafBeq.pcB] at h
  | _ :: _, [], h => by simp [leafBeq.pcB] at h
theorem hB_eq : ∀ {a b : Heap}, leafBeq.hB a b = true → a = b
  | [], [], _ => rfl
  | (n, x) :: r, (m, y) :: s, h => by
    simp only [leafBeq.hB, Bool.and_eq_true] at h
    rw [Nat.eq_of_beq_eq_true h.1.1, SBk.beq_eq h.1.2, hB_eq h.2]
  | [], _ :: _, h => by simp [leafBeq.hB] at h
  | _ :: _, [], h => by simp [leafBeq.hB] at h
theorem leafBeq_eq {a b : Leaf} (h : leafBeq a b = true) : a = b := by
  obtain ⟨ea, fa, pa, ha⟩ := a
  obtain ⟨eb, fb, pb, hb⟩ := b
  simp only [leafBeq, Bool.and_eq_true] at h
  obtain ⟨⟨⟨h1, h2⟩, h3⟩, h4⟩ := h
  rw [beqL_eq h2, pcB_eq h3, hB_eq h4]
  cases ea <;> cases eb <;> simp at h1
  · rfl
  · rw [h1]
  · rfl
  · rfl
theorem leafsB_eq : ∀ {a b : List Leaf}, leafsB a b = true → a = b
  | [], [], _ => rfl
  | x :: xs, y :: ys, h => by
    simp only [leafsB, Bool.and_eq_true] at h
    rw [leafBeq_eq h.1, leafsB_eq h.2]
  | [], _ :: _, h => by simp [leafsB] at h
  | _ :: _, [], h => by simp [leafsB] at h
theorem bsB_eq : ∀ {a b : List Bool}, bsB a b = true → a = b
  | [], [], _ => rfl
  | x :: xs, y :: ys, h => by
    simp only [bsB, Bool.and_eq_true] at h
    rw [bBeq_eq h.1, bsB_eq h.2]
  | [], _ :: _, h => by simp [bsB] at h
  | _ :: _, [], h => by simp [bsB] at h
def NotBad : SEx → Prop
  | .bad => False
  | _ => True

/-- A leaf holds of a frame and a world. -/
def SatL (lo hi : Nat) (ν0 : Env G) (ρ0 : Nat → Nat) (B : Base) (L : Leaf) (a : Act) (w : World) : Prop :=
  ∃ ν ρ, Agree lo hi ν0 ν ρ0 ρ ∧ pcDen ν L.pc ∧ (NotBad L.ex → FR ν ρ L.fr a ∧ HW B ν ρ L.hp w)

def LQ (Q : Exit → Act → World → Prop) : SEx → Act → World → Prop
  | .normal, a, w => Q .normal a w
  | .exit i, a, w => Q (.exit i) a w
  | .ret, a, w => Q .ret a w
  | .bad, _, _ => False

def RQ (K : Act → World → Prop) (Q : Exit → Act → World → Prop) : SEx → Act → World → Prop
  | .normal, a, w => K a w
  | .exit i, a, w => Q (.exit i) a w
  | .ret, a, w => Q .ret a w
  | .bad, _, _ => False

/-- Whatever 'a' says, 'b' says. -/
structure Cov (a b : Leaf) : Prop where
  ex : a.ex = b.ex
  st : NotBad a.ex → a.fr = b.fr ∧ a.hp = b.hp
  pc : ∀ c ∈ b.pc, c ∈ a.pc
theorem Cov.refl (a : Leaf) : Cov a a := ⟨rfl, fun _ => ⟨rfl, rfl⟩, fun _ h => h⟩
theorem Cov.trans {a b c : Leaf} (h : Cov a b) (g : Cov b c) : Cov a c :=
  ⟨h.ex.trans g.ex, fun hb => ⟨(h.st hb).1.trans (g.st (h.ex ▸ hb)).1, (h.st hb).2.trans (g.st (h.ex ▸ hb)).2⟩, fun x hx => h.pc x (g.pc x hx)⟩
theorem Cov.sat {a b : Leaf} (h : Cov a b) {lo hi : Nat} {ν0 : Env G} {ρ0 : Nat → Nat} {B : Base} {act : Act} {w : World} (hs : SatL lo hi ν0 ρ0 B a act w) : SatL lo hi ν0 ρ0 B b act w := by
  obtain ⟨ν, ρ, h1, h2, h3⟩ := hs
  refine ⟨ν, ρ, h1, fun c x hm => h2 c x (h.pc _ hm), fun hb => ?_⟩
  have hb' : NotBad a.ex := h.ex ▸ hb
  obtain ⟨e1, e2⟩ := h.st hb'
  rw [← e1, ← e2]
  exact h3 hb'
theorem exB_eq {a b : SEx} (h : exB a b = true) : a = b := by
  cases a <;> cases b <;> simp only [exB, Bool.false_eq_true] at h <;> first | rfl | rw [Nat.eq_of_beq_eq_true h]
theorem pcHas_mem {c : SB × Bool} : ∀ {p : PC}, pcHas c p = true → c ∈ p
  | [], h => by cases h
  | d :: r, h => by
    simp only [pcHas, Bool.or_eq_true, Bool.and_eq_true] at h
    rcases h with h | h
    · have e : c = d := Prod.ext (SB.beq_eq h.1) (bBeq_eq h.2)
      rw [e]; simp
    · exact List.mem_cons_of_mem _ (pcHas_mem h)
theorem pcSub_mem {p : PC} : ∀ {q : PC}, pcSub p q = true → ∀ c ∈ q, c ∈ p
  | [], _, c, h => by cases h
  | d :: r, h, c, hc => by
    simp only [pcSub, Bool.and_eq_true] at h
    rcases List.mem_cons.1 hc with rfl | hc
    · exact pcHas_mem h.1
    · exact pcSub_mem h.2 c hc
theorem covB_cov {a b : Leaf} (h : covB a b = true) : Cov a b := by
  simp only [covB, Bool.and_eq_true] at h
  refine ⟨exB_eq h.1.1, fun hb => ?_, pcSub_mem h.2⟩
  have h2 := h.1.2
  cases hex : a.ex with
  | bad => rw [hex] at hb; exact hb.elim
  | normal => rw [hex] at h2; simp only [Bool.and_eq_true] at h2; exact ⟨beqL_eq h2.1, hB_eq h2.2⟩
  | ret => rw [hex] at h2; simp only [Bool.and_eq_true] at h2; exact ⟨beqL_eq h2.1, hB_eq h2.2⟩
  | exit i => rw [hex] at h2; simp only [Bool.and_eq_true] at h2; exact ⟨beqL_eq h2.1, hB_eq h2.2⟩
def CovL (t u : List Leaf) : Prop := ∀ L ∈ t, ∃ M ∈ u, Cov L M
theorem addL_cov : ∀ {t u : List Leaf}, (∀ M ∈ u, M ∈ addL t u) ∧ CovL t (addL t u)
  | [], u => ⟨fun _ h => h, fun L h => by cases h⟩
  | a :: t, u => by
    unfold addL
    split
    · rename_i hb
      obtain ⟨M, hM, hc⟩ := List.any_eq_true.1 hb
      obtain ⟨h1, h2⟩ := addL_cov (t := t) (u := u)
      refine ⟨h1, fun L hL => ?_⟩
      rcases List.mem_cons.1 hL with rfl | hL
      · exact ⟨M, h1 M hM, covB_cov hc⟩
      · exact h2 L hL
    · obtain ⟨h1, h2⟩ := addL_cov (t := t) (u := u ++ [a])
      refine ⟨fun M hM => h1 M (List.mem_append_left _ hM), fun L hL => ?_⟩
      rcases List.mem_cons.1 hL with rfl | hL
      · exact ⟨L, h1 L (by simp), Cov.refl L⟩
      · exact h2 L hL
/-- A frontier's state is met by another one. -/
def CovF (x : List Bool × List Leaf) (F : Front) : Prop := ∃ u, (x.1, u) ∈ F ∧ CovL x.2 u
theorem CovF.of_mem {x : List Bool × List Leaf} {F : Front} (h : x ∈ F) : CovF x F := ⟨x.2, h, fun L hL => ⟨L, hL, Cov.refl L⟩⟩
theorem CovF.trans {x : List Bool × List Leaf} {F F' : Front} (h : CovF x F) (g : ∀ y ∈ F, CovF y F') : CovF x F' := by
  obtain ⟨u, hu, hc⟩ := h
  obtain ⟨v, hv, hc'⟩ := g _ hu
  refine ⟨v, hv, fun L hL => ?_⟩
  obtain ⟨M, hM, c1⟩ := hc L hL
  obtain ⟨N, hN, c2⟩ := hc' M hM
  exact ⟨N, hN, c1.trans c2⟩
theorem merge_mem {l : List Bool} {t : List Leaf} : ∀ {F G : Front}, merge l t F = some G → CovF (l, t) G ∧ ∀ x ∈ F, CovF x G
  | [], G, h => by simp only [merge, Option.some.injEq] at h; subst h; exact ⟨CovF.of_mem (by simp), fun x hx => by cases hx⟩
  | (m, u) :: r, G, h => by
    unfold merge at h
    split at h
    · rename_i hb
      cases h
      obtain ⟨h1, h2⟩ := addL_cov (t := t) (u := u)
      rw [bsB_eq hb]
      refine ⟨⟨_, List.mem_cons_self .., h2⟩, fun x hx => ?_⟩
      rcases List.mem_cons.1 hx with rfl | hx
      · exact ⟨_, List.mem_cons_self .., fun L hL => ⟨L, h1 L hL, Cov.refl L⟩⟩
      · exact CovF.of_mem (List.mem_cons_of_mem _ hx)
    · simp only [Option.map_eq_some_iff] at h
      obtain ⟨G', hG, rfl⟩ := h
      obtain ⟨h1, h2⟩ := merge_mem hG
      have up : ∀ {x}, CovF x G' → CovF x ((m, u) :: G') := fun ⟨v, hv, hc⟩ => ⟨v, List.mem_cons_of_mem _ hv, hc⟩
      refine ⟨up h1, fun x hx => ?_⟩
      rcases List.mem_cons.1 hx with rfl | hx
      · exact CovF.of_mem (List.mem_cons_self ..)
      · exact up (h2 x hx)

theorem wantX_sound {ν : Env G} {ρ : Nat → Nat} {ops : Array Oper} {fr : List SV} {pc : PC} {o : Oper} {a : Act} {ws : List (PC × Bool)} (h : wantX ops fr pc o = some ws) (hf : FR ν ρ fr a) (hpc : pcDen ν pc) :
    ∃ x ∈ ws, pcDen ν x.1 ∧ Region.wanted o (yielded ops a.tmps) = x.2 := by
  unfold wantX at h
  split at h
  · rename_i hg
    cases h
    exact ⟨([], true), by simp, pcDen_nil ν, by simp [Region.wanted, hg]⟩
  · rename_i g want hg
    split at h
    · rename_i hd
      cases h
      refine ⟨([], false), by simp, pcDen_nil ν, ?_⟩
      simp [Region.wanted, hg, yielded, hd]
    · rename_i d hd
      have hy0 : yielded ops a.tmps g = match a.tmps[d]? with | some (.bool b) => some b | _ => none := by
        unfold yielded
        rw [hd]
        simp only [Option.bind_some]
        cases a.tmps[d]? with
        | none => rfl
        | some v => cases v <;> rfl
      have hy : ∀ v, fr[d]? = some v → v.isDead = false → yielded ops a.tmps g = match v.den ν ρ with | .bool b => some b | _ => none := by
        intro v hv hdv
        rw [hy0, hf.tmps d v hv hdv]
        cases v.den ν ρ <;> rfl
      split at h
      · rename_i e he
        replace hy := hy _ he rfl
        simp only [SV.den] at hy
        split at h
        · rename_i b hb
          cases h
          have := SB.known_den hpc hb
          refine ⟨([], bBeq b want), by simp, pcDen_nil ν, ?_⟩
          simp only [Region.wanted, hg, hy, this]
          cases b <;> cases want <;> rfl
        · cases h
          cases hq : e.den ν
          · refine ⟨([asm e false], !want), by simp, pcDen_asm1 hq, ?_⟩
            simp only [Region.wanted, hg, hy, hq]
            cases want <;> rfl
          · refine ⟨([asm e true], want), by simp, pcDen_asm1 hq, ?_⟩
            simp only [Region.wanted, hg, hy, hq]
            cases want <;> rfl
      · cases h
      · cases h
      · cases h
      · cases h
      · cases h
      · cases h
      · rename_i hno1 hno2 hno4 hno5 hno6 hno7 hno3
        cases h
        refine ⟨([], false), by simp, pcDen_nil ν, ?_⟩
        have : yielded ops a.tmps g = none := by
          cases hx : fr[d]? with
          | none =>
            have h1 : fr.length ≤ d := List.getElem?_eq_none_iff.1 hx
            rw [hy0, Array.getElem?_eq_none (by rw [hf.size]; exact h1)]
          | some s =>
            cases s with
            | bool e => exact absurd hx (hno1 e)
            | opq i => exact absurd hx (hno2 i)
            | dead => exact absurd hx hno3
            | gv f g i => exact absurd hx (hno4 f g i)
            | osl b l c => exact absurd hx (hno5 b l c)
            | ifc t v => exact absurd hx (hno6 t v)
            | nilIf => exact absurd hx hno7
            | _ => rw [hy _ hx rfl]; simp [SV.den]
        simp [Region.wanted, hg, this]

def resOne (tmps : Array Value) : ResultVar → Sem Value
  | .tmp t => pure (tmps.getD t undef)
  | .cell a t => do loadVar t (← asAddr (tmps.getD a undef))

theorem resX_sound {ν : Env G} {ρ : Nat → Nat} {hp : Heap} {w : World} (hw : HW B ν ρ hp w) {fr : List SV} {a : Act} (hf : FR ν ρ fr a) : ∀ {rs : List ResultVar} {vs : List SV}, resX P fr hp rs = some vs →
    (rs.mapM (resOne a.tmps)).run P w = .ok (denL ν ρ vs) w
  | [], vs, h => by simp only [resX, Option.some.injEq] at h; subst h; simp [denL]
  | .tmp t :: r, vs, h => by
    unfold resX at h
    split at h
    · cases h
    · rename_i hdd
      simp only [Option.map_eq_some_iff] at h
      obtain ⟨vs', hv, rfl⟩ := h
      have hg : (resOne a.tmps (.tmp t)).run P w = .ok ((fget fr t).den ν ρ) w := by
        simp only [resOne, Sem.run_pure, hf.get (by simpa using hdd)]
      simp only [List.mapM_cons, Sem.run_bind, hg, Result.andThen_ok, resX_sound hw hf hv, Sem.run_pure, denL]
  | .cell q t :: r, vs, h => by
    unfold resX at h
    split at h
    · rename_i v vs' hv hvs
      cases h
      have hnd : (fget fr q).isDead = false := by
        unfold loadX at hv
        split at hv
        · rename_i b off heq; rw [heq]; rfl
        · cases hv
      have hg : a.tmps.getD q undef = (fget fr q).den ν ρ := hf.get hnd
      obtain ⟨x0, hx0, _, hl0⟩ := loadX_run hw (pcDen_nil ν) hv
      have hx1 := List.mem_singleton.1 hx0
      subst hx1
      have hl := hl0 v rfl
      have hp : ∃ x, (fget fr q).den ν ρ = .pointer (some x) := by
        unfold loadX at hv
        split at hv
        · rename_i b off heq; rw [heq]; exact ⟨_, rfl⟩
        · cases hv
      obtain ⟨x, hx⟩ := hp
      rw [hx] at hl hg
      simp only [Instr.loadAt, Instr.sureAddr, Sem.run_bind, Sem.run_pure, Result.andThen_ok] at hl
      have ho : (resOne a.tmps (.cell q t)).run P w = .ok (v.den ν ρ) w := by
        simp only [resOne, Sem.run_bind, hg, asAddr, Sem.run_pure, Result.andThen_ok, hl]
      simp only [List.mapM_cons, Sem.run_bind, ho, Result.andThen_ok, resX_sound hw hf hvs, Sem.run_pure, denL]
    · cases h

theorem results_sound {ν : Env G} {ρ : Nat → Nat} {hp : Heap} {w : World} (hw : HW B ν ρ hp w) {fn : Func} {fr : List SV} {a : Act} (hf : FR ν ρ fr a) {vs : List SV} (h : resX P fr hp fn.results.toList = some vs) :
    (results fn a.tmps).run P w = .ok ((oneOr vs).den ν ρ) w := by
  have h1 := resX_sound (P := P) hw hf h
  have he : results fn a.tmps = (do let vs ← fn.results.mapM (resOne a.tmps); pure (if h : vs.size = 1 then vs[0] else .tuple vs)) := rfl
  rw [he, Array.mapM_eq_mapM_toList]
  simp only [Sem.run_bind, Sem.run_map, h1, Result.andThen_ok, Sem.run_pure]
  congr 1
  match vs with
  | [] => simp [denL, oneOr, SV.den]
  | [x] => simp [denL, oneOr]
  | x :: y :: r => simp [denL, oneOr, SV.den]
end
end Go.Sy
end

section
namespace Go.Sy
open Go
/-! ### ghosts -/
/-- A cell of a row that a ghost knows: kind (8: Bool, 9: no slice, 10: a slice of words), number, words, where they lie. -/
structure SC where
  k : Nat
  x : Int
  l : List Int
  b : Nat
  c : Nat
def SC.zero : SC := ⟨0, 0, [], 0, 0⟩
def SC.nums (c : SC) : Nat × Int × List Int := (c.k, c.x, c.l)
def kOf : Nat → IntKind
  | 0 => .i8 | 1 => .i16 | 2 => .i32 | 3 => .i64 | 4 => .u8 | 5 => .u16 | 6 => .u32 | _ => .u64
def SC.val (c : SC) : Value := if c.k < 8 then .int (kOf c.k) c.x else if c.k = 8 then .bool (decide (0 < c.x)) else if c.k = 9 then .slice none 0 0 else .slice (some ⟨c.b, 0, none⟩) c.l.length c.c
theorem SC.val_one (c : SC) : c.val.oneCell' = true := by unfold SC.val; repeat' split
                                                          all_goals rfl
/-- What an access tells (what was there, the code, did it win); what it leaves; a table of accesses. -/
structure Gh where
  u : Int
  c : Int
  o : Bool
  l : List Int
  t : List (Int × Int × Int × Int)
  s : List SC
  w : Nat
def ghL (l : List Int) : Gh := ⟨0, 0, false, l, [], [], 0⟩
/-- A Bool, told by a number. -/
def bval (x : Int) : Value := .bool (decide (0 < x))
/-- s, s + 1, .., before e -/
def upG (s e : Int) : List Int := (List.range (e - s).toNat).map fun (k : Nat) => s + (k : Int)
/-- 1s from s to before e, in a list of n zeros -/
def onesG (n s e : Int) : List Int := (List.range n.toNat).map fun (k : Nat) => if s ≤ (k : Int) ∧ (k : Int) < e then 1 else 0
/-- n words of a row of 'size' slots, from a number on (numbers: modulo m), the row's slots from 'at' + 'off' on, 'st' cells a slot. -/
def slotsG (l : List Int) (at' size from' n m off st : Int) : List Int := (List.range n.toNat).map fun (j : Nat) => l.getD (at' + off + st * ((from' + (j : Int)) % m % size)).toNat 0
/-- which round lays the pair of cells s -/
def rnd (size from' s : Int) : Int := (s - from') % size
/-- A list, as i rounds of a lane's Init leave it: the lane at at', of size slots, begun at from'. -/
def lnG (l : List Int) (at' size from' i : Int) : List Int := (List.range l.length).map fun (k : Nat) =>
  if (k : Int) = at' ∨ (k : Int) = at' + 1 then from'
  else if at' + 2 ≤ (k : Int) ∧ (k : Int) < at' + 2 + 2 * size ∧ rnd size from' (((k : Int) - at' - 2) / 2) < i then
    (if ((k : Int) - at') % 2 = 0 then (from' + rnd size from' (((k : Int) - at' - 2) / 2)) % 18446744073709551616 else 0)
  else l.getD k 0
/-- zeros, n of them, from a on -/
def zG (l : List Int) (a n : Int) : List Int := (List.range l.length).map fun (k : Nat) => if a ≤ (k : Int) ∧ (k : Int) < a + n then 0 else l.getD k 0
/-- The nodes along a queue's links, from a pair on. -/
def visF (l : List Int) (at' N : Int) : Nat → Int → List Int → Option (List Int)
  | 0, _, _ => none
  | f + 1, u, seen =>
    if u % 4294967296 = 0 ∧ seen ≠ [] then some seen
    else if u % 4294967296 < 1 ∨ N < u % 4294967296 ∨ u % 4294967296 ∈ seen then none
    else visF l at' N f (l.getD (at' + 2 + 2 * N + u % 4294967296).toNat 0) (seen ++ [u % 4294967296])
def vis (l : List Int) (at' N : Int) : Option (List Int) := visF l at' N (N.toNat + 2) (l.getD at'.toNat 0) []
def visT (l : List Int) (at' N : Int) : List Int := ((vis l at' N).getD []).map fun i => l.getD (at' + 2 + N + i).toNat 0
/-! what is seen of a document's machine, at each step -/
def tolds (t : List (Int × Int × Int × Int)) (j : Nat) : Int × Bool := let q := t.getD j (0, 0, 0, 0); (q.1, decide (0 < q.2.1))
def iterS {σ : Type} (step : σ → Int → Bool → σ) (s0 : σ) (t : List (Int × Int × Int × Int)) : Nat → σ
  | 0 => s0
  | j + 1 => step (iterS step s0 t j) (tolds t j).1 (tolds t j).2
def seenR {σ : Type} (obs : σ → List SC) (step : σ → Int → Bool → σ) (s0 : σ) (t : List (Int × Int × Int × Int)) (n : Nat) : List SC := (List.range n).flatMap fun j => obs (iterS step s0 t j)
def cI (x : Int) : SC := ⟨3, x, [], 0, 0⟩
def cU (x : Int) : SC := ⟨7, x, [], 0, 0⟩
def cB (b : Bool) : SC := ⟨8, if b then 1 else 0, [], 0, 0⟩
def cN : SC := ⟨9, 0, [], 0, 0⟩
def cL (l : List Int) : SC := ⟨10, 0, l, 0, 0⟩
/-- what is wanted (kind, cell, two words), what came of it (code, word), what is held -/
def seenC (k cell a b : Int) (wants : Bool) (code v : Int) (over : Bool) (held : List Int) : List SC := [cI k, cI cell, cU a, cU b, cB wants, cI code, cU v, cN, cB over, cL held]
def loW (u : Int) : Int := u % 4294967296
def pairW (hi lo : Int) : Int := hi % 4294967296 * 4294967296 + lo % 4294967296
/-- an arena's machine -/
structure A6 where
  st : Int
  h : Int
  lk : Int
  dn : Bool
  cd : Int
  v : Int
def A6.fin (s : A6) (c v : Int) : A6 := { s with dn := true, cd := c, v := v }
def A6.head (N : Int) (puts : Bool) (s : A6) (v : Int) : A6 := let s := { s with h := v, st := 2 }
  if puts then s else if loW v = 0 then s.fin 7 0 else if N < loW v then s.fin 9 0 else s
def A6.step (N : Int) (puts : Bool) (s : A6) (v : Int) (won : Bool) : A6 :=
  if s.dn then s else if s.st = 1 then s.head N puts v else if s.st = 2 then { s with lk := v, st := 3 }
  else if won then (if puts then s.fin 0 0 else s.fin 0 (loW s.h)) else s.head N puts v
def A6.obs (at' : Int) (puts : Bool) (node : Int) (s : A6) : List SC :=
  if s.dn then seenC 0 0 0 0 false s.cd s.v true []
  else if s.st = 1 then seenC 1 at' 0 0 true 0 0 false []
  else if puts then (if s.st = 2 then seenC 2 (at' + node) (loW s.h) 0 true 0 0 false [] else seenC 3 at' s.h (pairW (s.h / 4294967296 + 1) node) true 0 0 false [])
  else if s.st = 2 then seenC 1 (at' + loW s.h) 0 0 true 0 0 false [] else seenC 3 at' s.h (pairW (s.h / 4294967296 + 1) (loW s.lk)) true 0 0 false []
def A6.of (l : List Int) : A6 := ⟨l.getD 4 0, l.getD 5 0, l.getD 6 0, decide (0 < l.getD 7 0), l.getD 8 0, l.getD 9 0⟩
def seen6 (l : List Int) (t : List (Int × Int × Int × Int)) (n : Nat) : List SC := seenR (A6.obs (l.getD 0 0) (decide (0 < l.getD 2 0)) (l.getD 3 0)) (A6.step (l.getD 1 0) (decide (0 < l.getD 2 0))) (A6.of l) t n
/-- a lane's -/
structure A32 where
  st : Int
  n : Int
  task : Int
  dn : Bool
  cd : Int
  v : Int
def A32.fin (s : A32) (c v : Int) : A32 := { s with dn := true, cd := c, v := v }
def A32.dist (puts : Bool) (s : A32) (t : Int) : Int := if puts then IntKind.i64.wrap (t - s.n) else IntKind.i64.wrap (t - s.n - 1)
def A32.step (puts : Bool) (s : A32) (v : Int) (won : Bool) : A32 :=
  if s.dn then s else if s.st = 1 then { s with n := v, st := 2 }
  else if s.st = 2 then (if s.dist puts v < 0 then ({ s with st := 3 }).fin (if puts then 4 else 5) 0 else if 0 < s.dist puts v then { s with st := 1 } else { s with st := 3 })
  else if s.st = 3 then (if won then { s with st := 4 } else { s with n := v, st := 2 })
  else if s.st = 4 then (if puts then { s with st := 5 } else { s with task := v, st := 5 })
  else s.fin 0 (if puts then 0 else s.task)
def A32.obs (at' size : Int) (puts : Bool) (s : A32) : List SC :=
  let turn := at' + 2 + 2 * (s.n % size)
  let side := if puts then at' else at' + 1
  let held := if puts || s.st = 5 then [s.task] else []
  if s.dn then seenC 0 0 0 0 false s.cd s.v true []
  else if s.st = 1 then seenC 1 side 0 0 true 0 0 false held
  else if s.st = 2 then seenC 1 turn 0 0 true 0 0 false held
  else if s.st = 3 then seenC 3 side s.n ((s.n + 1) % 18446744073709551616) true 0 0 false held
  else if s.st = 4 then (if puts then seenC 2 (turn + 1) s.task 0 true 0 0 false held else seenC 1 (turn + 1) 0 0 true 0 0 false held)
  else seenC 2 turn ((s.n + (if puts then 1 else size)) % 18446744073709551616) 0 true 0 0 false held
def A32.of (l : List Int) : A32 := ⟨l.getD 4 0, l.getD 5 0, l.getD 3 0, decide (0 < l.getD 6 0), l.getD 7 0, l.getD 8 0⟩
def seen32 (l : List Int) (t : List (Int × Int × Int × Int)) (n : Nat) : List SC := seenR (A32.obs (l.getD 0 0) (l.getD 1 0) (decide (0 < l.getD 2 0))) (A32.step (decide (0 < l.getD 2 0))) (A32.of l) t n
/-- a deque's -/
structure A7 where
  st : Int
  b : Int
  t : Int
  x : Int
  won : Bool
  dn : Bool
  cd : Int
  v : Int
def A7.fin (s : A7) (c v : Int) : A7 := { s with dn := true, cd := c, v := v }
def A7.ahead (s : A7) : Int := IntKind.i64.wrap (s.b - s.t)
def A7.step (size kind : Int) (s : A7) (v : Int) (won : Bool) : A7 :=
  if s.dn then s
  else if kind = 1 then
    (if s.st = 1 then { s with b := v, st := 2 }
     else if s.st = 2 then (let s := { s with t := v, st := 3 }; if size ≤ s.ahead then s.fin 4 0 else s)
     else if s.st = 3 then { s with st := 4 } else s.fin 0 0)
  else if kind = 2 then
    (if s.st = 1 then { s with b := (v - 1) % 18446744073709551616, st := 2 }
     else if s.st = 2 then { s with st := 3 }
     else if s.st = 3 then { s with t := v, st := 4 }
     else if s.st = 4 then (if s.ahead < 0 then s.fin 5 0 else let s := { s with x := v, st := 5 }; if 0 < s.ahead then s.fin 0 v else s)
     else if s.st = 5 then { s with won := won, st := 6 }
     else if s.won then s.fin 0 s.x else s.fin 5 0)
  else if s.st = 1 then { s with t := v, st := 2 }
  else if s.st = 2 then (let s := { s with b := v, st := 3 }; if s.ahead < 1 then s.fin 5 0 else s)
  else if s.st = 3 then { s with x := v, st := 4 }
  else if won then s.fin 0 s.x else s.fin 6 0
def A7.obs (at' size kind task : Int) (s : A7) : List SC :=
  let up := (s.b + 1) % 18446744073709551616
  if s.dn then seenC 0 0 0 0 false s.cd s.v true []
  else if kind = 1 then
    (if s.st = 1 then seenC 1 (at' + 1) 0 0 true 0 0 false [task]
     else if s.st = 2 then seenC 1 at' 0 0 true 0 0 false [task]
     else if s.st = 3 then seenC 2 (at' + 2 + s.b % size) task 0 true 0 0 false [task]
     else seenC 2 (at' + 1) up 0 true 0 0 false [task])
  else if kind = 2 then
    (if s.st = 1 then seenC 1 (at' + 1) 0 0 true 0 0 false []
     else if s.st = 2 then seenC 2 (at' + 1) s.b 0 true 0 0 false []
     else if s.st = 3 then seenC 1 at' 0 0 true 0 0 false []
     else if s.st = 4 then (if s.ahead < 0 then seenC 2 (at' + 1) up 0 true 0 0 false [] else seenC 1 (at' + 2 + s.b % size) 0 0 true 0 0 false [])
     else if s.st = 5 then seenC 3 at' s.t ((s.t + 1) % 18446744073709551616) true 0 0 false []
     else seenC 2 (at' + 1) up 0 true 0 0 false (if s.won then [s.x] else []))
  else if s.st = 1 then seenC 1 at' 0 0 true 0 0 false []
  else if s.st = 2 then seenC 1 (at' + 1) 0 0 true 0 0 false []
  else if s.st = 3 then seenC 1 (at' + 2 + s.t % size) 0 0 true 0 0 false []
  else seenC 3 at' s.t ((s.t + 1) % 18446744073709551616) true 0 0 false []
def A7.of (l : List Int) : A7 := ⟨l.getD 4 0, l.getD 5 0, l.getD 6 0, l.getD 7 0, decide (0 < l.getD 8 0), decide (0 < l.getD 9 0), l.getD 10 0, l.getD 11 0⟩
def seen7 (l : List Int) (t : List (Int × Int × Int × Int)) (n : Nat) : List SC := seenR (A7.obs (l.getD 0 0) (l.getD 1 0) (l.getD 2 0) (l.getD 3 0)) (A7.step (l.getD 1 0) (l.getD 2 0)) (A7.of l) t n
def ghS (s : List SC) : Gh := ⟨0, 0, false, [], [], s, 0⟩
def getC (s : List SC) (i : Int) : SC := s.getD i.toNat SC.zero
/-- Symbols of the laws. -/
def xga (f : Nat) (g h : Gh) (a b c d : Int) (l : List Int) : Gh := match f with
  | 40 => ghL (slotsG l a b c d 18446744073709551616 2 1)
  | 41 => ghL (slotsG l a b c d 18446744073709551616 3 2)
  | 46 => ghL (lnG l a b c d)
  | 47 => ghL (upG a b)
  | 48 => ⟨a, 0, false, l, [], [], 0⟩
  | 49 => ghL (onesG a b c)
  | 45 => ⟨0, 0, l.all fun x => decide (a ≤ x ∧ x ≤ b), [], [], [], 0⟩
  | 42 => ghL (slotsG l a b c d 4294967296 2 1)
  | 50 => ghL (zG l a b)
  | 51 => ⟨0, 0, (vis l a b).isSome, visT l a b, [], [], 0⟩
  | 52 => ⟨0, 0, decide (a ∈ l), [], [], [], 0⟩
  | 70 => let x := getC g.s (a + b); ⟨x.x, 0, decide (0 < x.x), x.l, [], [], 0⟩
  | 73 => { g with s := g.s ++ [⟨a.toNat, b, l, (getC h.s c).b, (getC h.s c).c⟩] }
  | 75 => { g with s := g.s.set a.toNat { getC g.s a with x := b } }
  | 76 => ⟨0, 0, g.s.map SC.nums == h.s.map SC.nums, [], [], [], 0⟩
  | 78 => { g with u := c, c := a + 1, l := l, w := b.toNat }
  | 80 => ghS (seen6 l g.t a.toNat)
  | 81 => ghS (seen32 l g.t a.toNat)
  | 82 => ghS (seen7 l g.t a.toNat)
  | 83 => ⟨0, 0, g.t.all fun q => decide (0 ≤ q.1 ∧ q.1 < 18446744073709551616), [], [], [], 0⟩
  | _ => g
theorem xga_eqs (g h : Gh) (a b c d : Int) (l : List Int) : xga 52 g h a b c d l = ⟨0, 0, decide (a ∈ l), [], [], [], 0⟩ := by simp only [xga]
theorem xga_eq0 (g h : Gh) (a b c d : Int) (l : List Int) : xga 0 g h a b c d l = g := by unfold xga; simp only
end Go.Sy
end

section
namespace Go.Sy
open Go

def NP (Q : Exit → Act → World → Prop) : Prop := ∀ ch a w, Q (.panic ch) a w → False

/-- A piece of a piece of code. -/
inductive Part : Code → Code → Prop
  | refl (c : Code) : Part c c
  | seqL {a b c : Code} : Part (.seq a b) c → Part a c
  | seqR {a b c : Code} : Part (.seq a b) c → Part b c
  | block {i : Nat} {a c : Code} : Part (.block i a) c → Part a c
  | loop {a c : Code} : Part (.loop a) c → Part a c
  | condL {x : Operand} {a b c : Code} : Part (.cond x a b) c → Part a c
  | condR {x : Operand} {a b c : Code} : Part (.cond x a b) c → Part b c

def PartOf (P : Program) (f : Nat) (c : Code) : Prop := ∃ (fn : Func) (body : Code), P.funcs[f]? = some fn ∧ fn.body = some body ∧ Part c body

/-- What is owed of an oracle. -/
structure OOK {G : Type} (P : Program) (O : Orac) (I : In G) : Prop where
  call : ∀ {f lo : Nat} {args : List SV} {pc : PC} {hp : Heap} {cs : List CLeaf}, O.call f lo args pc hp = some (some cs) → ∀ (sz : Nat), 64 ≤ sz → ∀ (B : Base) (ν : Env G) (ρ : Nat → Nat) (w : World) (R : Ending → World → Prop), ν.I = I → pcDen ν pc → HW B ν ρ hp w →
    (∀ c ∈ cs, ∀ ν' ρ' w', Agree lo (lo + sz) ν ν' ρ ρ' → pcDen ν' c.pc → c.bad = false ∧ (HW B ν' ρ' c.hp w' → R (.returned (c.v.den ν' ρ')) w')) → Calls P f (denL ν ρ args).toArray w R
  loop : ∀ {f nm : Nat} {a : Code} {fr : List SV} {pc : PC} {hp : Heap} {ls : List Leaf}, PartOf P f (.loop a) → O.loop f (site a) nm fr pc hp = some (some ls) → ∀ (sub : Nat), 64 ≤ sub → ∀ (B : Base) (ν : Env G) (ρ : Nat → Nat) (Q : Exit → Act → World → Prop), NP Q → ν.I = I →
    (∀ L ∈ ls, ∀ a w, SatL nm (nm + sub) ν ρ B L a w → LQ Q L.ex a w) → ∀ act w, pcDen ν pc → FR ν ρ fr act → HW B ν ρ hp w → (Code.loop a).wp P Q act w
  op : ∀ {nm : Nat} {fr : List SV} {pc : PC} {hp : Heap} {o : Oper} {outs : List (PC × ORes)}, O.op nm fr pc hp o = some outs → ∀ (B : Base) (ν : Env G) (ρ : Nat → Nat) (a : Act) (w : World), ν.I = I → pureOp o.op = false → FR ν ρ fr a → pcDen ν pc → HW B ν ρ hp w → OutsOK P B o a w hp nm ν ρ outs
  tail : ∀ {f rid n : Nat} {ops : Array Oper}, PartOf P f (.region rid ops true) → O.tail f rid = some n → Region.lexTailB .any ops n = true
  order : ∀ {f rid : Nat} {l : OT} {ops : Array Oper}, PartOf P f (.region rid ops true) → O.order f rid = some l → ordOK ops l = true

theorem opO_pure {P : Program} {O : Orac} {nm : Nat} {fr : List SV} {pc : PC} {hp : Heap} {o : Oper} (h : pureOp o.op = true) : opO P O nm fr pc hp o = opX P nm fr pc hp o := by
  unfold opO; rw [if_pos h]
theorem opO_sound {P : Program} {G : Type} {O : Orac} {I : In G} {B : Base} {ν : Env G} {ρ : Nat → Nat} {hp : Heap} {w : World} (pr : PR P) (oo : OOK P O I) (hI : ν.I = I) {nm : Nat} {fr : List SV} {pc : PC} {o : Oper} {a : Act} {outs : List (PC × ORes)} (hx : opO P O nm fr pc hp o = some outs) (hf : FR ν ρ fr a) (hpc : pcDen ν pc) (hw : HW B ν ρ hp w) :
    OutsOK P B o a w hp nm ν ρ outs := by
  unfold opO at hx
  split at hx
  · exact opX_sound pr hx hf hpc hw
  · rename_i hp'
    split at hx
    · rename_i r hr
      cases hx
      exact oo.op hr B ν ρ a w hI (by simpa using hp') hf hpc hw
    · exact opX_sound pr hx hf hpc hw

structure AllOK {G : Type} (P : Program) (O : Orac) (I : In G) (n : Nat) : Prop where
  code : ∀ {lo sz f it : Nat} {c : Code} {fr : List SV} {pc : PC} {hp : Heap} {ls : List Leaf}, codeX0 P O lo sz f n it c fr pc hp = some ls → PartOf P f c → ∀ (B : Base) (ν0 : Env G) (ρ0 : Nat → Nat) (Q : Exit → Act → World → Prop), ν0.I = I → NP Q →
    (∀ L ∈ ls, ∀ a w, SatL lo (lo + sz) ν0 ρ0 B L a w → LQ Q L.ex a w) → ∀ a w, SatL lo (lo + sz) ν0 ρ0 B ⟨.normal, fr, pc, hp⟩ a w → c.wp P Q a w
  loops : ∀ {lo sz f it k : Nat} {c : Code} {ls ls' : List Leaf}, loopX0 P O lo sz f n it k c ls = some ls' → PartOf P f c → ∀ (B : Base) (ν0 : Env G) (ρ0 : Nat → Nat) (Q : Exit → Act → World → Prop), ν0.I = I → NP Q →
    (∀ L ∈ ls', ∀ a w, SatL lo (lo + sz) ν0 ρ0 B L a w → LQ Q L.ex a w) → ∀ L ∈ ls, ∀ a w, SatL lo (lo + sz) ν0 ρ0 B L a w → RQ (Code.rounds P c Q k) Q L.ex a w
  ops : ∀ {lo sz f it rid : Nat} {ops : Array Oper} {j k : Nat} {ls ls' : List Leaf}, opsX0 P O lo sz f n it rid ops j k ls = some ls' → ∀ (B : Base) (ν0 : Env G) (ρ0 : Nat → Nat) (Q : Exit → Act → World → Prop), ν0.I = I → NP Q →
    (∀ L ∈ ls', ∀ a w, SatL lo (lo + sz) ν0 ρ0 B L a w → LQ Q L.ex a w) → ∀ L ∈ ls, ∀ a w, SatL lo (lo + sz) ν0 ρ0 B L a w → RQ (wpOps P ops Q (List.range' j k)) Q L.ex a w
  step : ∀ {lo sz f it rid : Nat} {ops : Array Oper} {j : Nat} {ls ls' : List Leaf}, stepX0 P O lo sz f n it rid ops j ls = some ls' → ∀ (B : Base) (ν0 : Env G) (ρ0 : Nat → Nat) (Q : Exit → Act → World → Prop) (K : Act → World → Prop), ν0.I = I → NP Q →
    (∀ L ∈ ls', ∀ a w, SatL lo (lo + sz) ν0 ρ0 B L a w → RQ K Q L.ex a w) → ∀ L ∈ ls, ∀ a w, SatL lo (lo + sz) ν0 ρ0 B L a w → RQ (wpOp P ops Q j K) Q L.ex a w
  call : ∀ {lo sz f : Nat} {args : List SV} {pc : PC} {hp : Heap} {cs : List CLeaf}, callX0 P O lo sz n f args pc hp = some cs → ∀ (B : Base) (ν : Env G) (ρ : Nat → Nat) (w : World) (R : Ending → World → Prop), ν.I = I → pcDen ν pc → HW B ν ρ hp w →
    (∀ c ∈ cs, ∀ ν' ρ' w', Agree lo (lo + sz) ν ν' ρ ρ' → pcDen ν' c.pc → c.bad = false ∧ (HW B ν' ρ' c.hp w' → R (.returned (c.v.den ν' ρ')) w')) → Calls P f (denL ν ρ args).toArray w R
  draw : ∀ {lo sz f it rid : Nat} {ops : Array Oper} {k : Nat} {F : Front} {t : List Leaf}, drawX0 P O lo sz f n it rid ops k F = some t → Region.noSelect ops = true → ∀ (B : Base) (ν0 : Env G) (ρ0 : Nat → Nat) (Q : Exit → Act → World → Prop), ν0.I = I → NP Q →
    (∀ L ∈ t, ∀ a w, SatL lo (lo + sz) ν0 ρ0 B L a w → LQ Q L.ex a w) → ∀ l ls, (l, ls) ∈ F → ∀ L ∈ ls, ∀ a w, SatL lo (lo + sz) ν0 ρ0 B L a w → RQ (wpAny P .any ops Q k l.toArray) Q L.ex a w
  level : ∀ {lo sz f it rid : Nat} {ops : Array Oper} {F G1 G' : Front}, levelX0 P O lo sz f n it rid ops F G1 = some G' → (∀ x ∈ G1, CovF x G') ∧ (Region.noSelect ops = true → ∀ (B : Base) (ν0 : Env G) (ρ0 : Nat → Nat) (Q : Exit → Act → World → Prop) (k : Nat), ν0.I = I → NP Q →
    (∀ l ls, (l, ls) ∈ G' → ∀ L ∈ ls, ∀ a w, SatL lo (lo + sz) ν0 ρ0 B L a w → RQ (wpAny P .any ops Q k l.toArray) Q L.ex a w) → ∀ l ls, (l, ls) ∈ F → ∀ L ∈ ls, ∀ a w, SatL lo (lo + sz) ν0 ρ0 B L a w → RQ (wpAny P .any ops Q (k + 1) l.toArray) Q L.ex a w)
  side : ∀ {lo sz f it rid : Nat} {ops : Array Oper} {l : List Bool} {t : List Leaf} {is : List Nat} {G1 G' : Front}, sideX0 P O lo sz f n it rid ops l t is G1 = some G' → (∀ x ∈ G1, CovF x G') ∧ ∀ i ∈ is, ∃ m t', m < n ∧ stepX0 P O lo sz f m it rid ops i t = some t' ∧ CovF (l.set i true, t') G'

section
variable {P : Program} {G : Type} {O : Orac} {I : In G}

theorem ok_side {n : Nat} (ih : ∀ m, m < n → AllOK P O I m) : ∀ {lo sz f it rid : Nat} {ops : Array Oper} {l : List Bool} {t : List Leaf} {is : List Nat} {G1 G' : Front}, sideX0 P O lo sz f n it rid ops l t is G1 = some G' → (∀ x ∈ G1, CovF x G') ∧ ∀ i ∈ is, ∃ m t', m < n ∧ stepX0 P O lo sz f m it rid ops i t = some t' ∧ CovF (l.set i true, t') G' := by
  intro lo sz f it rid ops l t is G1 G' h
  cases n with
  | zero => simp [sideX0] at h
  | succ n =>
    unfold sideX0 at h
    cases is with
    | nil => simp only [Option.some.injEq] at h; subst h; exact ⟨fun _ h => CovF.of_mem h, fun i hi => by cases hi⟩
    | cons i r =>
      simp only at h
      split at h
      · cases h
      · rename_i t' ht
        split at h
        · cases h
        · rename_i G2 hm
          obtain ⟨m1, m2⟩ := merge_mem hm
          obtain ⟨s1, s2⟩ := (ih n (by omega)).side h
          refine ⟨fun x hx => (m2 x hx).trans s1, fun j hj => ?_⟩
          rcases List.mem_cons.1 hj with rfl | hj
          · exact ⟨n, t', by omega, ht, m1.trans s1⟩
          · obtain ⟨m, t'', hm, h1, h2⟩ := s2 j hj
            exact ⟨m, t'', by omega, h1, h2⟩

theorem LQ_of_RQ {Q : Exit → Act → World → Prop} {ex : SEx} {a : Act} {w : World} : LQ Q ex a w ↔ RQ (Q .normal) Q ex a w := by cases ex <;> exact Iff.rfl

theorem ok_ops {n : Nat} (ih : ∀ m, m < n → AllOK P O I m) {lo sz f it rid : Nat} {ops : Array Oper} {j k : Nat} {ls ls' : List Leaf} (h : opsX0 P O lo sz f n it rid ops j k ls = some ls') (B : Base) (ν0 : Env G) (ρ0 : Nat → Nat) (Q : Exit → Act → World → Prop) (hI : ν0.I = I) (hQ : NP Q)
    (hl : ∀ L ∈ ls', ∀ a w, SatL lo (lo + sz) ν0 ρ0 B L a w → LQ Q L.ex a w) : ∀ L ∈ ls, ∀ a w, SatL lo (lo + sz) ν0 ρ0 B L a w → RQ (wpOps P ops Q (List.range' j k)) Q L.ex a w := by
  cases n with
  | zero => simp [opsX0] at h
  | succ n =>
    unfold opsX0 at h
    cases k with
    | zero =>
      simp only [Option.some.injEq] at h
      subst h
      intro L hL a w hs
      have := LQ_of_RQ.1 (hl L hL a w hs)
      simpa [wpOps] using this
    | succ k =>
      simp only at h
      split at h
      · rename_i l1 h1
        have h2 := (ih n (by omega)).ops h B ν0 ρ0 Q hI hQ hl
        have h3 := (ih n (by omega)).step h1 B ν0 ρ0 Q (wpOps P ops Q (List.range' (j + 1) k)) hI hQ h2
        intro L hL a w hs
        have h4 := h3 L hL a w hs
        rw [List.range'_succ]
        have he : wpOps P ops Q (j :: List.range' (j + 1) k) = fun a w => wpOp P ops Q j (wpOps P ops Q (List.range' (j + 1) k)) a w := by
          funext a w; exact wpOps_cons j _ a w
        rw [he]
        exact h4
      · cases h

theorem pure_yields {nm : Nat} {fr : List SV} {pc : PC} {hp : Heap} {o : Oper} {a : Act} {ν : Env G} {ρ : Nat → Nat} {outs : List (PC × ORes)} (hx : opX P nm fr pc hp o = some outs) (hp' : pureOp o.op = true) (hf : FR ν ρ fr a) (hpc : pcDen ν pc) :
    outs = [([], .bad)] ∨ ∃ v, outs = [([], .val v hp)] ∧ ∀ w, (execOp a.eval o).run P w = .ok (.value (v.den ν ρ)) w := by
  obtain ⟨dst, op, type, pos, after, guard⟩ := o
  unfold opX at hx
  cases op <;> simp only [pureOp, Bool.false_eq_true] at hp' <;> simp only at hx
  case move x =>
    simp only [Option.map_eq_some_iff] at hx
    obtain ⟨v, hv, rfl⟩ := hx
    exact .inr ⟨v, rfl, fun w => by simp [execOp, hf.eval hv]⟩
  case assign x =>
    simp only [Option.map_eq_some_iff] at hx
    obtain ⟨v, hv, rfl⟩ := hx
    exact .inr ⟨v, rfl, fun w => by simp [execOp, hf.eval hv]⟩
  case nilCheck x =>
    split at hx
    · rename_i b off hv
      cases hx
      exact .inr ⟨_, rfl, fun w => by simp [execOp, hf.eval hv, SV.den]⟩
    · rename_i f p c hv
      cases hx
      exact .inr ⟨_, rfl, fun w => by simp [execOp, hf.eval hv, SV.den]⟩
    · rename_i t v hv
      cases hx
      exact .inr ⟨_, rfl, fun w => by simp [execOp, hf.eval hv, SV.den]⟩
    · cases hx; exact .inl rfl
    · cases hx; exact .inl rfl
    · cases hx
  case unOp op t x =>
    split at hx
    · rename_i u hu
      simp only [Option.map_eq_some_iff] at hx
      obtain ⟨v, hv, rfl⟩ := hx
      exact .inr ⟨v, rfl, fun w => by simp [execOp, hf.eval hu, unX_run hv]⟩
    · cases hx
  case makeFunc fn first caps =>
    split at hx
    · rename_i f u c hu hc
      cases hx
      refine .inr ⟨_, rfl, fun w => ?_⟩
      simp only [execOp, Instr.makeFunc, evalL_toArray hf hu, evalL_toArray hf hc, SV.den, Sem.run_bind, Sem.run_pure, Result.andThen_ok]
    · cases hx
  case fieldAddr s x f =>
    split at hx
    · rename_i b off fs hv hs
      split at hx
      · rename_i g hg
        split at hx
        · rename_i n hn
          split at hx
          · rename_i h1
            simp only [Bool.and_eq_true] at h1
            have h0 := SI.nn_den hpc off h1.2
            have h1 := Nat.le_of_ble_eq_true h1.1
            cases hx
            refine .inr ⟨_, rfl, fun w => ?_⟩
            have hn0 : n ≠ 0 := by omega
            have e : (off.den ν).toNat + g.offset = (off.den ν + Int.ofNat g.offset).toNat := by
              have : Int.ofNat g.offset = (g.offset : Int) := rfl
              rw [this]; omega
            simp [execOp, hf.eval hv, SV.den, SI.den, SI.mkAdd_den, Instr.fieldAt, run_underlying hs, hg, Instr.sureAddr, fieldPlace, sizeT_run hn, hn0, add_none, e]
          · cases hx
        · cases hx
      · cases hx
    · cases hx
  case extract x i =>
    split at hx
    · rename_i l hl
      simp only [Option.map_eq_some_iff] at hx
      obtain ⟨v, hv, rfl⟩ := hx
      exact .inr ⟨v, rfl, fun w => by simp [execOp, hf.eval hl, SV.den, Instr.extract, denL_get, hv]⟩
    · cases hx

theorem ok_stepB (pr : PR P) (oo : OOK P O I) {n : Nat} (ih : ∀ m, m < n → AllOK P O I m) {lo sz f it rid : Nat} {ops : Array Oper} {j : Nat} {ls ls' : List Leaf} (h : stepX0 P O lo sz f n it rid ops j ls = some ls') (B : Base) (ν0 : Env G) (ρ0 : Nat → Nat) (Q : Exit → Act → World → Prop) (K : Act → World → Prop) (hI : ν0.I = I) (hQ : NP Q) {b0 b1 : Nat} (hb0 : Nat.ble b0 (lo + (it * 2 ^ 20 + rid * 256 + j) * (sz / K0)) = true) (hb1 : Nat.ble (lo + (it * 2 ^ 20 + rid * 256 + j) * (sz / K0) + sz / K0) (lo + sz) = true → Nat.ble (lo + (it * 2 ^ 20 + rid * 256 + j) * (sz / K0) + sz / K0) b1 = true)
    (hl : ∀ L ∈ ls', ∀ a w, SatL b0 b1 ν0 ρ0 B L a w → RQ K Q L.ex a w) : ∀ L ∈ ls, ∀ a w, SatL b0 b1 ν0 ρ0 B L a w → RQ (wpOp P ops Q j K) Q L.ex a w := by
  cases n with
  | zero => simp [stepX0] at h
  | succ n =>
    unfold stepX0 at h
    split at h
    · cases h
    · rename_i o ho
      intro L hL a w hs
      obtain ⟨l1, h1, hsub⟩ := bindL_mem h L hL
      obtain ⟨ex, fr, pc, hp⟩ := L
      cases ex with
      | exit i => simp only [Option.some.injEq] at h1; subst h1; exact hl _ (hsub _ (by simp)) a w hs
      | ret => simp only [Option.some.injEq] at h1; subst h1; exact hl _ (hsub _ (by simp)) a w hs
      | bad => simp only [Option.some.injEq] at h1; subst h1; exact hl _ (hsub _ (by simp)) a w hs
      | normal =>
        simp only at h1
        obtain ⟨ν, ρ, hag, hpc, hfw⟩ := hs
        obtain ⟨hf, hw⟩ := hfw trivial
        show wpOp P ops Q j K a w
        unfold wpOp
        simp only [ho]
        unfold bindO at h1
        split at h1
        · cases h1
        · rename_i ws hws
          obtain ⟨x, hx, hxp, hwant⟩ := wantX_sound hws hf hpc
          obtain ⟨l2, h2, hsub2⟩ := bindL_mem h1 x hx
          skip
          have hpc2 : pcDen ν (x.1 ++ pc) := pcDen_append hxp hpc
          cases hb : x.2 with
          | false =>
            rw [hb] at h2 hwant
            simp only [Bool.false_eq_true, if_false, Option.some.injEq] at h2
            subst h2
            rw [hwant]
            simp only [Bool.false_eq_true, if_false]
            exact hl ⟨.normal, fput fr o.dst (.tup []), x.1 ++ pc, hp⟩ (hsub _ (hsub2 _ (by simp))) _ w ⟨ν, ρ, hag, hpc2, fun _ => ⟨hf.put o.dst (.tup []), hw⟩⟩
          | true =>
            rw [hb] at h2 hwant
            rw [hwant]
            simp only [if_true] at h2 ⊢
            left
            generalize hnm : lo + (it * 2 ^ 20 + rid * 256 + j) * (sz / K0) = nm at h2 hb0 hb1
            generalize hsb : sz / K0 = sub at h2 hb1
            split at h2
            · rename_i hint
              simp only [Bool.and_eq_true] at hint
              have i1 : Nat.ble b0 nm = true := hb0
              have i2 := hb1 hint.1
              have i3 : Nat.ble (nm + 1) b1 = true := Nat.ble_eq_true_of_le (by have := Nat.le_of_ble_eq_true i2; have := Nat.le_of_ble_eq_true hint.2; omega)
              split at h2
              · cases h2
              · rename_i outs houts
                obtain ⟨r, hr, ν', ρ', hag', hmk, hpr, hout⟩ := opO_sound pr oo (hag.I.trans hI) houts hf hpc2 hw
                obtain ⟨l3, h3, hsub3⟩ := bindL_mem h2 r hr
                have hag1 : Agree b0 b1 ν0 ν' ρ0 ρ' := hag.trans (hag'.mono i1 i3)
                obtain ⟨rp, ro⟩ := r
                simp only at hpr hout h3
                cases ro with
                | fail => cases h3
                | val v hp' =>
                  simp only at h3 hout
                  obtain ⟨w', hrun, hw'⟩ := hout
                  have fin : FR ν' ρ' fr a → pcDen ν' (rp ++ (x.1 ++ pc)) → [(⟨.normal, fput fr o.dst v, rp ++ (x.1 ++ pc), hp'⟩ : Leaf)] = l3 → o.wp P a w K Q := by
                    intro hf' hpc' hl3
                    unfold Oper.wp
                    rw [hrun, Oper.upon_value]
                    refine hl ⟨.normal, fput fr o.dst v, rp ++ (x.1 ++ pc), hp'⟩ (hsub _ (hsub2 _ (hsub3 _ (by rw [← hl3]; simp)))) _ w' ⟨ν', ρ', hag1, hpc', fun _ => ⟨hf'.put o.dst v, hw'⟩⟩
                  have hpr2 : pcDen ν (rp ++ (x.1 ++ pc)) := pcDen_append hpr hpc2
                  split at h3
                  · split at h3
                    · rename_i hav2
                      simp only [Bool.and_eq_true] at hav2
                      refine fin (hf.agree hag' hav2.1) (pcDen_agree hag' hav2.2 hpr2) (Option.some.inj h3)
                    · cases h3
                  · rename_i hnm
                    obtain ⟨rfl, rfl⟩ := hmk (by simpa using hnm)
                    exact fin hf hpr2 (Option.some.inj h3)
                | skip hp' =>
                  simp only at h3 hout
                  split at h3
                  · cases h3
                  · rename_i hnm
                    obtain ⟨rfl, rfl⟩ := hmk (by simpa using hnm)
                    obtain ⟨w', hrun, hw'⟩ := hout
                    unfold Oper.wp
                    rw [hrun, Oper.upon_skip]
                    refine hl ⟨.normal, fput fr o.dst (.tup []), rp ++ (x.1 ++ pc), hp'⟩ (hsub _ (hsub2 _ (hsub3 _ (by rw [← Option.some.inj h3]; simp)))) _ w' ⟨ν', ρ', hag1, pcDen_append hpr hpc2, fun _ => ⟨hf.put o.dst (.tup []), hw'⟩⟩
                | bad =>
                  simp only at h3
                  have hpr2 : pcDen ν (rp ++ (x.1 ++ pc)) := pcDen_append hpr hpc2
                  have fin : [(⟨.bad, [], rp ++ (x.1 ++ pc), []⟩ : Leaf)] = l3 → o.wp P a w K Q := by
                    intro hl3
                    exact (hl ⟨.bad, [], rp ++ (x.1 ++ pc), []⟩ (hsub _ (hsub2 _ (hsub3 _ (by rw [← hl3]; simp)))) a w ⟨ν, ρ, hag, hpr2, fun h => h.elim⟩).elim
                  split at h3
                  · split at h3
                    · exact fin (Option.some.inj h3)
                    · cases h3
                  · exact fin (Option.some.inj h3)
                | call g args =>
                  simp only at h3 hout
                  split at h3
                  · cases h3
                  · rename_i hnm
                    obtain ⟨rfl, rfl⟩ := hmk (by simpa using hnm)
                    obtain ⟨hrun, hw'⟩ := hout
                    split at h3
                    · rename_i hav2
                      split at h3
                      · cases h3
                      · rename_i cs hcs
                        have hc := (ih n (by omega)).call hcs B ν' ρ' w
                        unfold Oper.wp
                        rw [hrun, Oper.upon_enter]
                        refine hc _ (hag1.I.trans hI) (pcDen_append hpr hpc2) hw' ?_
                        intro c hcm ν2 ρ2 w2 hag2 hpc3
                        have hag3 : Agree b0 b1 ν0 ν2 ρ0 ρ2 := hag1.trans (hag2.mono i1 i2)
                        have hmem := hsub _ (hsub2 _ (hsub3 (if c.bad then ⟨.bad, [], c.pc, []⟩ else ⟨.normal, fput fr o.dst c.v, c.pc, c.hp⟩ : Leaf) (by rw [← Option.some.inj h3]; exact List.mem_map.2 ⟨c, hcm, rfl⟩)))
                        cases hcb : c.bad with
                        | true =>
                          rw [hcb] at hmem
                          exact (hl _ hmem a w ⟨ν2, ρ2, hag3, hpc3, fun h => h.elim⟩).elim
                        | false =>
                          rw [hcb] at hmem
                          refine ⟨rfl, fun hw2 => ?_⟩
                          have hf2 : FR ν2 ρ2 fr a := hf.agree hag2 hav2
                          exact hl _ hmem _ w2 ⟨ν2, ρ2, hag3, hpc3, fun _ => ⟨hf2.put o.dst c.v, hw2⟩⟩
                    · cases h3
            · cases h2
theorem ok_step (pr : PR P) (oo : OOK P O I) {n : Nat} (ih : ∀ m, m < n → AllOK P O I m) {lo sz f it rid : Nat} {ops : Array Oper} {j : Nat} {ls ls' : List Leaf} (h : stepX0 P O lo sz f n it rid ops j ls = some ls') (B : Base) (ν0 : Env G) (ρ0 : Nat → Nat) (Q : Exit → Act → World → Prop) (K : Act → World → Prop) (hI : ν0.I = I) (hQ : NP Q)
    (hl : ∀ L ∈ ls', ∀ a w, SatL lo (lo + sz) ν0 ρ0 B L a w → RQ K Q L.ex a w) : ∀ L ∈ ls, ∀ a w, SatL lo (lo + sz) ν0 ρ0 B L a w → RQ (wpOp P ops Q j K) Q L.ex a w :=
  ok_stepB pr oo ih h B ν0 ρ0 Q K hI hQ (Nat.ble_eq_true_of_le (by omega)) id hl
end
end Go.Sy
end
