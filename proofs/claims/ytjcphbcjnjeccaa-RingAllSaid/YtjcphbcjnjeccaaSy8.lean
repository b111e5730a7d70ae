import Derived.Test.YtjcphbcjnjeccaaSy7b
set_option linter.unusedVariables false
set_option linter.unusedSimpArgs false
namespace Go.Sy
open Go

section
variable {P : Program} {G : Type} {B : Base} {ν : Env G} {ρ : Nat → Nat} {hp : Heap} {w : World}

def OutOK (P : Program) (B : Base) (o : Oper) (a : Act) (w : World) (hp : Heap) (ν' : Env G) (ρ' : Nat → Nat) : ORes → Prop
  | .val v hp' => ∃ w', (execOp a.eval o).run P w = .ok (.value (v.den ν' ρ')) w' ∧ HW B ν' ρ' hp' w'
  | .skip hp' => ∃ w', (execOp a.eval o).run P w = .ok .skip w' ∧ HW B ν' ρ' hp' w'
  | .call f args => (execOp a.eval o).run P w = .ok (.enter f (denL ν' ρ' args).toArray) w ∧ HW B ν' ρ' hp w
  | .bad => True
  | .fail => True

def OutsOK (P : Program) (B : Base) (o : Oper) (a : Act) (w : World) (hp : Heap) (nm : Nat) (ν : Env G) (ρ : Nat → Nat) (outs : List (PC × ORes)) : Prop :=
  ∃ r ∈ outs, ∃ ν' ρ', Agree nm (nm + 1) ν ν' ρ ρ' ∧ (makes o.op = false → ν' = ν ∧ ρ' = ρ) ∧ pcDen ν r.1 ∧ OutOK P B o a w hp ν' ρ' r.2

/-- What the program owes. -/
structure PR (P : Program) : Prop where
  mixed : P.follows .mixedOrders = true
  ng : ∀ (f : Nat) (fn : Func), P.funcs[f]? = some fn → (fn.name == "runtime.NumGoroutine") = false

theorem out_same {o : Oper} {a : Act} {nm : Nat} {outs : List (PC × ORes)} (r : PC × ORes) (hr : r ∈ outs) (hp' : pcDen ν r.1) (h : OutOK P B o a w hp ν ρ r.2) : OutsOK P B o a w hp nm ν ρ outs :=
  ⟨r, hr, ν, ρ, Agree.refl _ _ _ _, fun _ => ⟨rfl, rfl⟩, hp', h⟩

theorem out_one {o : Oper} {a : Act} {nm : Nat} (v : SV) (hw : HW B ν ρ hp w) (h : (execOp a.eval o).run P w = .ok (.value (v.den ν ρ)) w) : OutsOK P B o a w hp nm ν ρ [([], .val v hp)] :=
  out_same ([], .val v hp) (by simp) (pcDen_nil ν) ⟨w, h, hw⟩

theorem out_mk {o : Oper} {a : Act} {nm e : Nat} {cs : List SV} (v : SV) (hw : HW B ν ρ hp w) (hc : (avL nm (nm + 1) cs && hav nm (nm + 1) hp) = true) (hmk : makes o.op = true)
    (h : (execOp a.eval o).run P w = .ok (.value (v.den ν (upd ρ nm w.heap.size))) (w.alloc (.cells (denL ν ρ cs).toArray e))) : OutsOK P B o a w hp nm ν ρ [([], .val v (hadd nm (.cells cs e true) hp))] := by
  simp only [Bool.and_eq_true] at hc
  have hag := agree_upd (ν := ν) (ρ := ρ) nm w.heap.size
  refine ⟨([], .val v (hadd nm (.cells cs e true) hp)), by simp, ν, upd ρ nm w.heap.size, hag, fun h => (by rw [hmk] at h; cases h), pcDen_nil ν, ⟨_, h, hw.new hag hc.2 ?_⟩⟩
  simp only [BlkDen]
  rw [show upd ρ nm w.heap.size nm = w.heap.size by simp [upd], denL_agree hag cs hc.1]
  exact ⟨heap_alloc_new w _, fun _ => Iff.rfl⟩

theorem evalL_toArray {fr : List SV} {a : Act} (hf : FR ν ρ fr a) {xs : Array Operand} {vs : List SV} (h : evalOL fr xs.toList = some vs) : xs.map a.eval = (denL ν ρ vs).toArray := by
  apply Array.ext'
  rw [Array.toList_map]
  exact hf.evalL h

theorem evalP_toArray {fr : List SV} {a : Act} (hf : FR ν ρ fr a) {ps : Array (Nat × Operand)} {parts : List (Nat × SV)} (h : evalP fr ps.toList = some parts) :
    (ps.map fun (x : Nat × Operand) => (x.1, a.eval x.2)) = (denP ν ρ parts).toArray := by
  apply Array.ext'
  rw [Array.toList_map]
  exact evalP_den hf h

theorem optL_den {fr : List SV} {a : Act} (hf : FR ν ρ fr a) {x : Option Operand} {v : Option SV} (h : optL fr x = some v) : x.map a.eval = v.map (·.den ν ρ) := by
  unfold optL at h
  split at h
  · cases h; rfl
  · simp only [Option.map_eq_some_iff] at h
    obtain ⟨u, hu, rfl⟩ := h
    simp [hf.eval hu]

theorem out_V {o : Oper} {a : Act} {nm : Nat} {l : List (PC × Option SV)} (hw : HW B ν ρ hp w) {x : PC × Option SV} (hx : x ∈ l) (hd : pcDen ν x.1) (h : ∀ v, x.2 = some v → (execOp a.eval o).run P w = .ok (.value (v.den ν ρ)) w) :
    OutsOK P B o a w hp nm ν ρ (outsV hp l) := by
  refine out_same _ (List.mem_map.2 ⟨x, hx, rfl⟩) hd ?_
  cases hx2 : x.2 with
  | none => trivial
  | some v => exact ⟨w, h v hx2, hw⟩

theorem out_H {o : Oper} {a : Act} {nm : Nat} {l : List (PC × Option Heap)} {x : PC × Option Heap} (hx : x ∈ l) (hd : pcDen ν x.1) (h : ∀ hp', x.2 = some hp' → ∃ w', (execOp a.eval o).run P w = .ok .skip w' ∧ HW B ν ρ hp' w') :
    OutsOK P B o a w hp nm ν ρ (outsH l) := by
  refine out_same _ (List.mem_map.2 ⟨x, hx, rfl⟩) hd ?_
  cases hx2 : x.2 with
  | none => trivial
  | some v => exact h v hx2

theorem out_VH {o : Oper} {a : Act} {nm : Nat} {l : List (PC × Option (SV × Heap))} (hmk : makes o.op = true) {x : PC × Option (SV × Heap)} (hx : x ∈ l) {ν' : Env G} {ρ' : Nat → Nat} (hag : Agree nm (nm + 1) ν ν' ρ ρ') (hd : pcDen ν x.1)
    (h : ∀ y, x.2 = some y → ∃ w', (execOp a.eval o).run P w = .ok (.value (y.1.den ν' ρ')) w' ∧ HW B ν' ρ' y.2 w') :
    OutsOK P B o a w hp nm ν ρ (outsVH l) := by
  refine ⟨_, List.mem_map.2 ⟨x, hx, rfl⟩, ν', ρ', hag, fun h => (by rw [hmk] at h; cases h), hd, ?_⟩
  cases hx2 : x.2 with
  | none => trivial
  | some v => exact h v hx2

theorem opX_sound (pr : PR P) {nm : Nat} {fr : List SV} {pc : PC} {o : Oper} {a : Act} {outs : List (PC × ORes)} (hx : opX P nm fr pc hp o = some outs) (hf : FR ν ρ fr a) (hpc : pcDen ν pc) (hw : HW B ν ρ hp w) :
    OutsOK P B o a w hp nm ν ρ outs := by
  obtain ⟨dst, op, type, pos, after, guard⟩ := o
  unfold opX at hx
  cases op <;> simp only at hx
  case move x =>
    simp only [Option.map_eq_some_iff] at hx
    obtain ⟨v, hv, rfl⟩ := hx
    exact out_one v hw (by simp [execOp, hf.eval hv])
  case assign x =>
    simp only [Option.map_eq_some_iff] at hx
    obtain ⟨v, hv, rfl⟩ := hx
    exact out_one v hw (by simp [execOp, hf.eval hv])
  case pick c x y =>
    split at hx
    · rename_i e hc
      have ec := hf.eval hc
      split at hx
      · rename_i hk
        simp only [Option.map_eq_some_iff] at hx
        obtain ⟨v, hv, rfl⟩ := hx
        have := SB.known_den hpc hk
        exact out_one v hw (by simp [execOp, hf.eval hv, ec, SV.den, asBool, this])
      · rename_i hk
        simp only [Option.map_eq_some_iff] at hx
        obtain ⟨v, hv, rfl⟩ := hx
        have := SB.known_den hpc hk
        exact out_one v hw (by simp [execOp, hf.eval hv, ec, SV.den, asBool, this])
      · split at hx
        · rename_i u v hu hv
          cases hx
          cases hq : e.den ν
          · exact out_same ([asm e false], .val v hp) (by simp) (pcDen_asm1 hq) ⟨w, by simp [execOp, hf.eval hv, ec, SV.den, asBool, hq], hw⟩
          · exact out_same ([asm e true], .val u hp) (by simp) (pcDen_asm1 hq) ⟨w, by simp [execOp, hf.eval hu, ec, SV.den, asBool, hq], hw⟩
        · cases hx
    · cases hx
  case alloc e =>
    split at hx
    · rename_i z hz
      split at hx
      · rename_i hc
        cases hx
        refine out_mk _ hw hc rfl ?_
        have hzr := zeroT_run hz ν ρ w
        simp only [execOp, Instr.alloc, newVar, newRow, SV.den, SI.den]
        rw [← cells_den]
        simp [hzr, upd]
      · cases hx
    · cases hx
  case box e x =>
    split at hx
    · rename_i v hv
      split at hx
      · rename_i hc
        cases hx
        refine out_mk _ hw hc rfl ?_
        simp only [execOp, Instr.box, newVar, newRow, SV.den, SI.den, hf.eval hv]
        rw [← cells_den]
        simp [upd]
      · cases hx
    · cases hx
  case build t ps =>
    split at hx
    · rename_i parts hparts
      simp only [Option.map_eq_some_iff] at hx
      obtain ⟨v, hv, rfl⟩ := hx
      refine out_one v hw ?_
      have := buildX_run (ν := ν) (ρ := ρ) hv w
      rw [← evalP_toArray hf hparts] at this
      simp only [execOp, Sem.run_bind, this, Result.andThen_ok, Sem.run_pure]
    · cases hx
  case buildSlice t len ps =>
    split at hx
    · rename_i parts hparts
      split at hx
      · rename_i cs e hcs
        split at hx
        · rename_i hc
          cases hx
          refine out_mk _ hw hc rfl ?_
          have := buildSliceX_run (ν := ν) (ρ := ρ) hcs w
          rw [← evalP_toArray hf hparts] at this
          simp only [execOp, Sem.run_bind, this, Result.andThen_ok, Sem.run_pure]
          simp [SV.den, SI.den, upd]
        · cases hx
      · cases hx
    · cases hx
  case load t x =>
    split at hx
    · rename_i p hp'
      simp only [Option.map_eq_some_iff] at hx
      obtain ⟨l, hl, rfl⟩ := hx
      obtain ⟨r, hr, hd, hrun⟩ := loadX_run hw hpc hl
      exact out_V hw hr hd (fun v hv => by simp [execOp, hf.eval hp', hrun v hv])
    · cases hx
  case store t x y =>
    split at hx
    · rename_i p v hp' hv
      simp only [Option.map_eq_some_iff] at hx
      obtain ⟨l, hl, rfl⟩ := hx
      obtain ⟨r, hr, hd, hrun⟩ := storeX_run hw hpc hl
      refine out_H hr hd (fun h' hh => ?_)
      obtain ⟨w', hrn, hw'⟩ := hrun h' hh
      exact ⟨w', by simp [execOp, hf.eval hp', hf.eval hv, hrn], hw'⟩
    · cases hx
  case nilCheck x =>
    split at hx
    · rename_i b off hv
      cases hx
      exact out_one _ hw (by simp [execOp, hf.eval hv, SV.den])
    · rename_i f p c hv
      cases hx
      exact out_one _ hw (by simp [execOp, hf.eval hv, SV.den])
    · cases hx
      exact out_same ([], .bad) (by simp) (pcDen_nil ν) trivial
    · cases hx
      exact out_same ([], .bad) (by simp) (pcDen_nil ν) trivial
    · cases hx
  case binOp op t x y yt =>
    split at hx
    · rename_i u v hu hv
      simp only [Option.map_eq_some_iff] at hx
      obtain ⟨l, hl, rfl⟩ := hx
      obtain ⟨r, hr, hd, hrun⟩ := binX_run (ρ := ρ) hpc hl
      refine out_V hw hr hd (fun z hr2 => ?_)
      · have := hrun z hr2 x y w
        simp only [binRun] at this
        simp only [execOp, hf.eval hu, hf.eval hv, Sem.run_bind, Result.andThen_ok] at this ⊢
        cases hg : (eqGuard op t x y (u.den ν ρ) (v.den ν ρ)).run P w with
        | ok _ w1 =>
          simp only [hg, Result.andThen_ok] at this ⊢
          simp [this]
        | halt _ _ => simp [hg] at this
    · cases hx
  case unOp op t x =>
    split at hx
    · rename_i u hu
      simp only [Option.map_eq_some_iff] at hx
      obtain ⟨v, hv, rfl⟩ := hx
      exact out_one v hw (by simp [execOp, hf.eval hu, unX_run hv])
    · cases hx
  case convert s d x =>
    split at hx
    · rename_i k' e k1 k2 hv hs hd
      cases hx
      exact out_one _ hw (by simp [execOp, hf.eval hv, SV.den, convert, run_underlying hs, run_underlying hd, Conv.intToInt, SI.mkWrap_den])
    · cases hx
  case makeFunc fn first caps =>
    split at hx
    · rename_i f u c hu hc
      cases hx
      refine out_one _ hw ?_
      simp only [execOp, Instr.makeFunc, evalL_toArray hf hu, evalL_toArray hf hc, SV.den, Sem.run_bind, Sem.run_pure, Result.andThen_ok]
    · cases hx
  case extract x i =>
    split at hx
    · rename_i l hl
      simp only [Option.map_eq_some_iff] at hx
      obtain ⟨v, hv, rfl⟩ := hx
      exact out_one v hw (by simp [execOp, hf.eval hl, SV.den, Instr.extract, denL_get, hv])
    · cases hx
  case fieldAddr s x f =>
    split at hx
    · rename_i b off fs hv hs
      split at hx
      · rename_i g hg
        split at hx
        · rename_i n hn
          split at hx
          · rename_i h1
            simp only [Bool.and_eq_true] at h1
            have h0 := SI.nn_den hpc off h1.2
            have h1 := Nat.le_of_ble_eq_true h1.1
            cases hx
            refine out_one _ hw ?_
            have hn0 : n ≠ 0 := by omega
            have e : (off.den ν).toNat + g.offset = (off.den ν + Int.ofNat g.offset).toNat := by
              have : Int.ofNat g.offset = (g.offset : Int) := rfl
              rw [this]; omega
            simp [execOp, hf.eval hv, SV.den, SI.den, SI.mkAdd_den, Instr.fieldAt, run_underlying hs, hg, Instr.sureAddr, fieldPlace, sizeT_run hn, hn0, add_none, e]
          · cases hx
        · cases hx
      · cases hx
    · cases hx
  case field s x f =>
    split at hx
    · rename_i cs fs hv hs
      split at hx
      · rename_i g hg
        split at hx
        · rename_i n ha hn
          split at hx
          · rename_i hle
            have hle := Nat.le_of_ble_eq_true hle
            cases hx
            refine out_one _ hw ?_
            simp [execOp, hf.eval hv, SV.den, Instr.field, run_underlying hs, hg, asAgg, part, aggT_run ha, sizeT_run hn]
            rw [denL_take, denL_drop]
          · cases hx
        · rename_i ha
          simp only [Option.map_eq_some_iff] at hx
          obtain ⟨v, hv2, rfl⟩ := hx
          refine out_one _ hw ?_
          simp [execOp, hf.eval hv, SV.den, Instr.field, run_underlying hs, hg, asAgg, part, aggT_run ha, denL_get, hv2]
        · cases hx
      · cases hx
    · cases hx
  case indexAddr t x i =>
    split at hx
    · rename_i b off len cap kk k e hv hi hu
      split at hx
      · rename_i n hn
        simp only [Option.map_eq_some_iff] at hx
        obtain ⟨l, hl, rfl⟩ := hx
        obtain ⟨r, hr, hd, hrun⟩ := indexX_run (ν := ν) (ρ := ρ) hpc hu hn hl kk (cap.den ν).toNat w
        exact out_V hw hr hd (fun v hv2 => by simp only [execOp, hf.eval hv, hf.eval hi, SV.den, Sem.run_bind, hrun v hv2, Result.andThen_ok, Sem.run_pure])
      · cases hx
    · rename_i b off kk k len e hv hi hu
      split at hx
      · rename_i n hn
        split at hx
        · rename_i hc
          have h1 := Nat.le_of_ble_eq_true hc
          cases hx
          refine out_one _ hw ?_
          have hb' : (0 : Int) ≤ Int.ofNat k ∧ Int.ofNat k < (len : Int) := ⟨Int.natCast_nonneg k, by show (k : Int) < (len : Int); omega⟩
          simp only [execOp, hf.eval hv, hf.eval hi, SV.den, SI.den, Instr.indexAt, asIntOf, Sem.run_bind, Sem.run_pure, Result.andThen_ok, run_underlying hu, Instr.sureAddr]
          simp only [Sem.run_ite, hb', and_self, if_true, Sem.run_bind, sizeT_run hn, Result.andThen_ok, Sem.run_pure, add_none]
          have ht : (Int.ofNat k).toNat = k := rfl
          have ho : (Int.ofNat off).toNat = off := rfl
          simp only [ht, ho, Int.toNat_natCast]
          try (split <;> simp [run_underlying hu])
        · cases hx
      · cases hx
    · rename_i b off kk k len e hno hv hi hu
      split at hx
      · rename_i n hn
        split at hx
        · cases hx
          obtain ⟨r, hr, hd, hrun⟩ := forkX_den (ν := ν) (k := k) len 0 hpc
          refine out_same _ (List.mem_map.2 ⟨r, hr, rfl⟩) hd ?_
          cases hr2 : r.2 with
          | none => trivial
          | some m =>
            obtain ⟨hm, _, hlt⟩ := hrun m hr2
            refine ⟨w, ?_, hw⟩
            have hb' : (0 : Int) ≤ (m : Int) ∧ (m : Int) < (len : Int) := ⟨by omega, by omega⟩
            simp only [execOp, hf.eval hv, hf.eval hi, SV.den, SI.den, hm, Instr.indexAt, asIntOf, Sem.run_bind, Sem.run_pure, Result.andThen_ok, run_underlying hu, Instr.sureAddr]
            simp only [Sem.run_ite, hb', and_self, if_true, Sem.run_bind, sizeT_run hn, Result.andThen_ok, Sem.run_pure, add_none]
            have ht : (Int.ofNat (off + m * n)).toNat = off + m * n := rfl
            have ho : (Int.ofNat off).toNat = off := rfl
            simp only [ht, ho, Int.toNat_natCast]
            try (split <;> simp [run_underlying hu])
        · cases hx
      · cases hx
    · cases hx
      exact out_same ([], .bad) (by simp) (pcDen_nil ν) trivial
    · cases hx
      exact out_same ([], .bad) (by simp) (pcDen_nil ν) trivial
    · cases hx
  case makeSlice t l c =>
    split at hx
    · rename_i x y hx1 hy1
      simp only [Option.map_eq_some_iff] at hx
      obtain ⟨l', hl, rfl⟩ := hx
      obtain ⟨r, hr, ν', ρ', hag, hd, hrun⟩ := makeX_run hw hpc hl
      refine out_VH rfl hr hag hd (fun y hy => ?_)
      obtain ⟨w', h1, h2⟩ := hrun y hy
      exact ⟨w', by simp only [execOp, hf.eval hx1, hf.eval hy1, SV.den, Sem.run_bind, h1, Result.andThen_ok, Sem.run_pure], h2⟩
    · cases hx
  case slice t x lo hi mx =>
    split at hx
    · rename_i v l h m hv hl hh hm
      simp only [Option.map_eq_some_iff] at hx
      obtain ⟨u, hu, rfl⟩ := hx
      refine out_one u hw ?_
      have := sliceX_run (ν := ν) (ρ := ρ) hu w
      simp [execOp, hf.eval hv, optL_den hf hl, optL_den hf hh, optL_den hf hm, this]
    · cases hx
  case call c =>
    obtain ⟨callee, args, argTypes⟩ := c
    cases callee with
    | invoke _ _ => simp at hx
    | value f =>
      simp only at hx
      split at hx
      · rename_i g first caps as hg has
        split at hx
        · rename_i fn hfn
          split at hx
          · rename_i hb
            cases hx
            refine out_same ([], .call g (first ++ as ++ caps)) (by simp) (pcDen_nil ν) ⟨?_, hw⟩
            have hng := pr.ng g fn hfn
            have hb' : fn.body.isNone = false := by cases h : fn.body <;> simp_all
            simp only [execOp, resolve, hf.eval hg, SV.den, Deferred.ofValue, Sem.run_bind, Sem.run_pure, Result.andThen_ok, invoke, evalL_toArray hf has, callFunc, run_program, hfn, hng, hb']
            simp [denL_append]
          · cases hx
        · cases hx
      · cases hx
        exact out_same ([], .bad) (by simp) (pcDen_nil ν) trivial
      · cases hx
    | builtin b =>
      cases b <;> simp only at hx <;> try (cases hx; done)
      case copy =>
        split at hx
        · rename_i d x t u hv ht
          split at hx
          · rename_i e hu
            have hargs := evalL_toArray hf hv
            have ht' : argTypes = #[t, u] := by apply Array.ext'; simpa using ht
            simp only [denL] at hargs
            split at hx
            · rename_i k hue
              split at hx
              · rename_i ls hls
                cases hx
                obtain ⟨r, hr, hd, hrd⟩ := listX_den hw hpc hls
                cases hr2 : r.2 with
                | none => exact out_same (r.1, .bad) (List.mem_flatMap.2 ⟨r, hr, by simp [hr2]⟩) hd trivial
                | some nl =>
                  have hreads := hrd nl hr2
                  cases happ : copyX P (r.1 ++ pc) hp t d nl with
                  | none => exact out_same ([], .fail) (List.mem_flatMap.2 ⟨r, hr, by simp [hr2, happ]⟩) (pcDen_nil ν) trivial
                  | some l =>
                    obtain ⟨q, hq, hqd, hrun⟩ := copyX_run (u := u) hw (pcDen_append hd hpc) hu hue hreads happ type
                    refine out_same (q.1 ++ r.1, match q.2 with | some v => .val v.1 v.2 | none => .bad) (List.mem_flatMap.2 ⟨r, hr, ?_⟩) (pcDen_append hqd hd) ?_
                    · simp only [hr2, happ]
                      exact List.mem_map.2 ⟨_, List.mem_map.2 ⟨q, hq, rfl⟩, rfl⟩
                    · cases hq2 : q.2 with
                      | none => trivial
                      | some y =>
                        obtain ⟨w', h1, h2⟩ := hrun y hq2
                        refine ⟨w', ?_, h2⟩
                        simp only [execOp, resolve, Sem.run_bind, Sem.run_pure, Result.andThen_ok, invoke, builtin, hargs, ht', h1]
              · cases hx
            · cases hx
          · cases hx
        · cases hx
      case append =>
        split at hx
        · rename_i s x t u hv ht
          split at hx
          · rename_i e hu
            split at hx
            · rename_i htu
              have htu := Nat.eq_of_beq_eq_true htu
              subst htu
              have hargs := evalL_toArray hf hv
              have ht' : argTypes = #[t, t] := by apply Array.ext'; simpa using ht
              simp only [denL] at hargs
              have hex : execOp a.eval ⟨dst, .call ⟨.builtin .append, args, argTypes⟩, type, pos, after, guard⟩ = execOp a.eval ⟨dst, .call ⟨.builtin .append, args, argTypes⟩, type, pos, after, guard⟩ := rfl
              split at hx
              · rename_i k hue
                split at hx
                · rename_i ls hls
                  cases hx
                  obtain ⟨r, hr, hd, hrd⟩ := listX_den hw hpc hls
                  cases hr2 : r.2 with
                  | none => exact out_same (r.1, .bad) (List.mem_flatMap.2 ⟨r, hr, by simp [hr2]⟩) hd trivial
                  | some nl =>
                    have hreads := hrd nl hr2
                    cases happ : appendR P nm (r.1 ++ pc) hp t s nl with
                    | none => exact out_same ([], .fail) (List.mem_flatMap.2 ⟨r, hr, by simp [hr2, happ]⟩) (pcDen_nil ν) trivial
                    | some l =>
                      obtain ⟨q, hq, ν', ρ', hag, hqd, hrun⟩ := appendR_run hw (pcDen_append hd hpc) hu hue hreads happ type
                      refine ⟨(q.1 ++ r.1, match q.2 with | some v => .val v.1 v.2 | none => .bad), List.mem_flatMap.2 ⟨r, hr, ?_⟩, ν', ρ', hag, fun h => (by simp [makes] at h), pcDen_append hqd hd, ?_⟩
                      · simp only [hr2, happ]
                        exact List.mem_map.2 ⟨_, List.mem_map.2 ⟨q, hq, rfl⟩, rfl⟩
                      · cases hq2 : q.2 with
                        | none => trivial
                        | some y =>
                          obtain ⟨w', h1, h2⟩ := hrun y hq2
                          refine ⟨w', ?_, h2⟩
                          simp only [execOp, resolve, Sem.run_bind, Sem.run_pure, Result.andThen_ok, invoke, builtin, hargs, ht', h1]
                · cases hx
              · split at hx
                · rename_i hav'
                  split at hx
                  · rename_i v h' happ
                    cases hx
                    obtain ⟨ν', ρ', w', hag, hr, hw'⟩ := appendX_run hw hav' happ type
                    refine ⟨([], .val v h'), by simp, ν', ρ', hag, fun h => (by simp [makes] at h), pcDen_nil ν, ⟨w', ?_, hw'⟩⟩
                    simp only [execOp, resolve, Sem.run_bind, Sem.run_pure, Result.andThen_ok, invoke, builtin, hargs, ht', hr]
                  · cases hx
                · cases hx
            · cases hx
          · rename_i kn hun
            split at hx
            · rename_i kq n
              simp only [Option.map_eq_some_iff] at hx
              obtain ⟨l, happ, rfl⟩ := hx
              have hargs := evalL_toArray hf hv
              have ht' : argTypes = #[t, u] := by apply Array.ext'; simpa using ht
              simp only [denL] at hargs
              obtain ⟨q, hq, ν', ρ', hag, hqd, hrun⟩ := appendZ_run (kq := kq) hw hpc hun happ type
              refine ⟨(q.1, match q.2 with | some v => .val v.1 v.2 | none => .bad), List.mem_map.2 ⟨q, hq, rfl⟩, ν', ρ', hag, fun h => (by simp [makes] at h), hqd, ?_⟩
              cases hq2 : q.2 with
              | none => trivial
              | some y =>
                obtain ⟨w', h1, h2⟩ := hrun y hq2
                refine ⟨w', ?_, h2⟩
                simp only [execOp, resolve, Sem.run_bind, Sem.run_pure, Result.andThen_ok, invoke, builtin, hargs, ht']
                simp only [SV.den] at h1 ⊢
                simp only [h1, Result.andThen_ok]
            · cases hx
          · cases hx
        · cases hx
      case len =>
        split at hx
        · rename_i t hv ht
          split at hx
          · rename_i e hu
            cases hx
            refine out_one _ hw ?_
            have := evalL_toArray hf hv
            simp only [execOp, resolve, Sem.run_bind, Sem.run_pure, Result.andThen_ok, invoke, builtin, this, Builtin.len_, ht]
            simp [denL, SV.den, run_underlying hu, goInt, SI.den]
          · cases hx
        · rename_i i t hv ht
          split at hx
          · rename_i e hu
            cases hx
            refine out_one _ hw ?_
            have := evalL_toArray hf hv
            simp only [execOp, resolve, Sem.run_bind, Sem.run_pure, Result.andThen_ok, invoke, builtin, this, Builtin.len_, ht]
            simp [denL, SV.den, run_underlying hu, goInt, SI.den]
          · cases hx
        · rename_i b o n c t hv ht
          split at hx
          · rename_i e hu
            cases hx
            refine out_one _ hw ?_
            have := evalL_toArray hf hv
            simp only [execOp, resolve, Sem.run_bind, Sem.run_pure, Result.andThen_ok, invoke, builtin, this, Builtin.len_, ht]
            simp [denL, SV.den, run_underlying hu, goInt, SI.mkNat_den]
          · cases hx
        · cases hx
  all_goals (cases hx)
end
end Go.Sy
