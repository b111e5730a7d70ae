/- Texts of one library, in one file. -/
import Derived.Test.YtlmenjenkpnacaaSyB
import Derived.LoopN
import Derived.Below
import Derived.ProofKit
import Derived.OpenShut
set_option linter.unusedVariables false
set_option linter.unusedSimpArgs false

section
namespace Go.Sy
open Go

section
variable {P : Program} {G : Type} {B : Base} {ν : Env G} {ρ : Nat → Nat} {hp : Heap} {w : World}

def OutOK (P : Program) (B : Base) (o : Oper) (a : Act) (w : World) (hp : Heap) (ν' : Env G) (ρ' : Nat → Nat) : ORes → Prop
  | .val v hp' => ∃ w', (execOp a.eval o).run P w = .ok (.value (v.den ν' ρ')) w' ∧ HW B ν' ρ' hp' w'
  | .skip hp' => ∃ w', (execOp a.eval o).run P w = .ok .skip w' ∧ HW B ν' ρ' hp' w'
  | .call f args => (execOp a.eval o).run P w = .ok (.enter f (denL ν' ρ' args).toArray) w ∧ HW B ν' ρ' hp w
  | .bad => True
  | .fail => True

def OutsOK (P : Program) (B : Base) (o : Oper) (a : Act) (w : World) (hp : Heap) (nm : Nat) (ν : Env G) (ρ : Nat → Nat) (outs : List (PC × ORes)) : Prop :=
  ∃ r ∈ outs, ∃ ν' ρ', Agree nm (nm + 1) ν ν' ρ ρ' ∧ (makes o.op = false → ν' = ν ∧ ρ' = ρ) ∧ pcDen ν r.1 ∧ OutOK P B o a w hp ν' ρ' r.2

/-- What the program owes. -/
structure PR (P : Program) : Prop where
  mixed : P.follows .mixedOrders = true
  ng : ∀ (f : Nat) (fn : Func), P.funcs[f]? = some fn → (fn.name == "runtime.NumGoroutine") = false

theorem out_same {o : Oper} {a : Act} {nm : Nat} {outs : List (PC × ORes)} (r : PC × ORes) (hr : r ∈ outs) (hp' : pcDen ν r.1) (h : OutOK P B o a w hp ν ρ r.2) : OutsOK P B o a w hp nm ν ρ outs :=
  ⟨r, hr, ν, ρ, Agree.refl _ _ _ _, fun _ => ⟨rfl, rfl⟩, hp', h⟩

theorem out_one {o : Oper} {a : Act} {nm : Nat} (v : SV) (hw : HW B ν ρ hp w) (h : (execOp a.eval o).run P w = .ok (.value (v.den ν ρ)) w) : OutsOK P B o a w hp nm ν ρ [([], .val v hp)] :=
  out_same ([], .val v hp) (by simp) (pcDen_nil ν) ⟨w, h, hw⟩

theorem out_mk {o : Oper} {a : Act} {nm e : Nat} {cs : List SV} (v : SV) (hw : HW B ν ρ hp w) (hc : (avL nm (nm + 1) cs && hav nm (nm + 1) hp) = true) (hmk : makes o.op = true)
    (h : (execOp a.eval o).run P w = .ok (.value (v.den ν (upd ρ nm w.heap.size))) (w.alloc (.cells (denL ν ρ cs).toArray e))) : OutsOK P B o a w hp nm ν ρ [([], .val v (hadd nm (.cells cs e true) hp))] := by
  simp only [Bool.and_eq_true] at hc
  have hag := agree_upd (ν := ν) (ρ := ρ) nm w.heap.size
  refine ⟨([], .val v (hadd nm (.cells cs e true) hp)), by simp, ν, upd ρ nm w.heap.size, hag, fun h => (by rw [hmk] at h; cases h), pcDen_nil ν, ⟨_, h, hw.new hag hc.2 ?_⟩⟩
  simp only [BlkDen]
  rw [show upd ρ nm w.heap.size nm = w.heap.size by simp [upd], denL_agree hag cs hc.1]
  exact ⟨heap_alloc_new w _, fun _ => Iff.rfl⟩

theorem evalL_toArray {fr : List SV} {a : Act} (hf : FR ν ρ fr a) {xs : Array Operand} {vs : List SV} (h : evalOL fr xs.toList = some vs) : xs.map a.eval = (denL ν ρ vs).toArray := by
  apply Array.ext'
  rw [Array.toList_map]
  exact hf.evalL h

theorem evalP_toArray {fr : List SV} {a : Act} (hf : FR ν ρ fr a) {ps : Array (Nat × Operand)} {parts : List (Nat × SV)} (h : evalP fr ps.toList = some parts) :
    (ps.map fun (x : Nat × Operand) => (x.1, a.eval x.2)) = (denP ν ρ parts).toArray := by
  apply Array.ext'
  rw [Array.toList_map]
  exact evalP_den hf h

theorem optL_den {fr : List SV} {a : Act} (hf : FR ν ρ fr a) {x : Option Operand} {v : Option SV} (h : optL fr x = some v) : x.map a.eval = v.map (·.den ν ρ) := by
  unfold optL at h
  split at h
  · cases h; rfl
  · simp only [Option.map_eq_some_iff] at h
    obtain ⟨u, hu, rfl⟩ := h
    simp [hf.eval hu]

theorem out_V {o : Oper} {a : Act} {nm : Nat} {l : List (PC × Option SV)} (hw : HW B ν ρ hp w) {x : PC × Option SV} (hx : x ∈ l) (hd : pcDen ν x.1) (h : ∀ v, x.2 = some v → (execOp a.eval o).run P w = .ok (.value (v.den ν ρ)) w) :
    OutsOK P B o a w hp nm ν ρ (outsV hp l) := by
  refine out_same _ (List.mem_map.2 ⟨x, hx, rfl⟩) hd ?_
  cases hx2 : x.2 with
  | none => trivial
  | some v => exact ⟨w, h v hx2, hw⟩

theorem out_H {o : Oper} {a : Act} {nm : Nat} {l : List (PC × Option Heap)} {x : PC × Option Heap} (hx : x ∈ l) (hd : pcDen ν x.1) (h : ∀ hp', x.2 = some hp' → ∃ w', (execOp a.eval o).run P w = .ok .skip w' ∧ HW B ν ρ hp' w') :
    OutsOK P B o a w hp nm ν ρ (outsH l) := by
  refine out_same _ (List.mem_map.2 ⟨x, hx, rfl⟩) hd ?_
  cases hx2 : x.2 with
  | none => trivial
  | some v => exact h v hx2

theorem out_VH {o : Oper} {a : Act} {nm : Nat} {l : List (PC × Option (SV × Heap))} (hmk : makes o.op = true) {x : PC × Option (SV × Heap)} (hx : x ∈ l) {ν' : Env G} {ρ' : Nat → Nat} (hag : Agree nm (nm + 1) ν ν' ρ ρ') (hd : pcDen ν x.1)
    (h : ∀ y, x.2 = some y → ∃ w', (execOp a.eval o).run P w = .ok (.value (y.1.den ν' ρ')) w' ∧ HW B ν' ρ' y.2 w') :
    OutsOK P B o a w hp nm ν ρ (outsVH l) := by
  refine ⟨_, List.mem_map.2 ⟨x, hx, rfl⟩, ν', ρ', hag, fun h => (by rw [hmk] at h; cases h), hd, ?_⟩
  cases hx2 : x.2 with
  | none => trivial
  | some v => exact h v hx2

theorem opX_sound (pr : PR P) {nm : Nat} {fr : List SV} {pc : PC} {o : Oper} {a : Act} {outs : List (PC × ORes)} (hx : opX P nm fr pc hp o = some outs) (hf : FR ν ρ fr a) (hpc : pcDen ν pc) (hw : HW B ν ρ hp w) :
    OutsOK P B o a w hp nm ν ρ outs := by
  obtain ⟨dst, op, type, pos, after, guard⟩ := o
  unfold opX at hx
  cases op <;> simp only at hx
  case move x =>
    simp only [Option.map_eq_some_iff] at hx
    obtain ⟨v, hv, rfl⟩ := hx
    exact out_one v hw (by simp [execOp, hf.eval hv])
  case assign x =>
    simp only [Option.map_eq_some_iff] at hx
    obtain ⟨v, hv, rfl⟩ := hx
    exact out_one v hw (by simp [execOp, hf.eval hv])
  case pick c x y =>
    split at hx
    · rename_i e hc
      have ec := hf.eval hc
      split at hx
      · rename_i hk
        simp only [Option.map_eq_some_iff] at hx
        obtain ⟨v, hv, rfl⟩ := hx
        have := SB.known_den hpc hk
        exact out_one v hw (by simp [execOp, hf.eval hv, ec, SV.den, asBool, this])
      · rename_i hk
        simp only [Option.map_eq_some_iff] at hx
        obtain ⟨v, hv, rfl⟩ := hx
        have := SB.known_den hpc hk
        exact out_one v hw (by simp [execOp, hf.eval hv, ec, SV.den, asBool, this])
      · split at hx
        · rename_i u v hu hv
          cases hx
          cases hq : e.den ν
          · exact out_same ([asm e false], .val v hp) (by simp) (pcDen_asm1 hq) ⟨w, by simp [execOp, hf.eval hv, ec, SV.den, asBool, hq], hw⟩
          · exact out_same ([asm e true], .val u hp) (by simp) (pcDen_asm1 hq) ⟨w, by simp [execOp, hf.eval hu, ec, SV.den, asBool, hq], hw⟩
        · cases hx
    · cases hx
  case alloc e =>
    split at hx
    · rename_i z hz
      split at hx
      · rename_i hc
        cases hx
        refine out_mk _ hw hc rfl ?_
        have hzr := zeroT_run hz ν ρ w
        simp only [execOp, Instr.alloc, newVar, newRow, SV.den, SI.den]
        rw [← cells_den]
        simp [hzr, upd]
      · cases hx
    · cases hx
  case box e x =>
    split at hx
    · rename_i v hv
      split at hx
      · rename_i hc
        cases hx
        refine out_mk _ hw hc rfl ?_
        simp only [execOp, Instr.box, newVar, newRow, SV.den, SI.den, hf.eval hv]
        rw [← cells_den]
        simp [upd]
      · cases hx
    · cases hx
  case build t ps =>
    split at hx
    · rename_i parts hparts
      simp only [Option.map_eq_some_iff] at hx
      obtain ⟨v, hv, rfl⟩ := hx
      refine out_one v hw ?_
      have := buildX_run (ν := ν) (ρ := ρ) hv w
      rw [← evalP_toArray hf hparts] at this
      simp only [execOp, Sem.run_bind, this, Result.andThen_ok, Sem.run_pure]
    · cases hx
  case buildSlice t len ps =>
    split at hx
    · rename_i parts hparts
      split at hx
      · rename_i cs e hcs
        split at hx
        · rename_i hc
          cases hx
          refine out_mk _ hw hc rfl ?_
          have := buildSliceX_run (ν := ν) (ρ := ρ) hcs w
          rw [← evalP_toArray hf hparts] at this
          simp only [execOp, Sem.run_bind, this, Result.andThen_ok, Sem.run_pure]
          simp [SV.den, SI.den, upd]
        · cases hx
      · cases hx
    · cases hx
  case load t x =>
    split at hx
    · rename_i p hp'
      simp only [Option.map_eq_some_iff] at hx
      obtain ⟨l, hl, rfl⟩ := hx
      obtain ⟨r, hr, hd, hrun⟩ := loadX_run hw hpc hl
      exact out_V hw hr hd (fun v hv => by simp [execOp, hf.eval hp', hrun v hv])
    · cases hx
  case store t x y =>
    split at hx
    · rename_i p v hp' hv
      simp only [Option.map_eq_some_iff] at hx
      obtain ⟨l, hl, rfl⟩ := hx
      obtain ⟨r, hr, hd, hrun⟩ := storeX_run hw hpc hl
      refine out_H hr hd (fun h' hh => ?_)
      obtain ⟨w', hrn, hw'⟩ := hrun h' hh
      exact ⟨w', by simp [execOp, hf.eval hp', hf.eval hv, hrn], hw'⟩
    · cases hx
  case nilCheck x =>
    split at hx
    · rename_i b off hv
      cases hx
      exact out_one _ hw (by simp [execOp, hf.eval hv, SV.den])
    · rename_i f p c hv
      cases hx
      exact out_one _ hw (by simp [execOp, hf.eval hv, SV.den])
    · cases hx
      exact out_same ([], .bad) (by simp) (pcDen_nil ν) trivial
    · cases hx
      exact out_same ([], .bad) (by simp) (pcDen_nil ν) trivial
    · cases hx
  case binOp op t x y yt =>
    split at hx
    · rename_i u v hu hv
      simp only [Option.map_eq_some_iff] at hx
      obtain ⟨l, hl, rfl⟩ := hx
      obtain ⟨r, hr, hd, hrun⟩ := binX_run (ρ := ρ) hpc hl
      refine out_V hw hr hd (fun z hr2 => ?_)
      · have := hrun z hr2 x y w
        simp only [binRun] at this
        simp only [execOp, hf.eval hu, hf.eval hv, Sem.run_bind, Result.andThen_ok] at this ⊢
        cases hg : (eqGuard op t x y (u.den ν ρ) (v.den ν ρ)).run P w with
        | ok _ w1 =>
          simp only [hg, Result.andThen_ok] at this ⊢
          simp [this]
        | halt _ _ => simp [hg] at this
    · cases hx
  case unOp op t x =>
    split at hx
    · rename_i u hu
      simp only [Option.map_eq_some_iff] at hx
      obtain ⟨v, hv, rfl⟩ := hx
      exact out_one v hw (by simp [execOp, hf.eval hu, unX_run hv])
    · cases hx
  case convert s d x =>
    split at hx
    · rename_i k' e k1 k2 hv hs hd
      cases hx
      exact out_one _ hw (by simp [execOp, hf.eval hv, SV.den, convert, run_underlying hs, run_underlying hd, Conv.intToInt, SI.mkWrap_den])
    · cases hx
  case makeFunc fn first caps =>
    split at hx
    · rename_i f u c hu hc
      cases hx
      refine out_one _ hw ?_
      simp only [execOp, Instr.makeFunc, evalL_toArray hf hu, evalL_toArray hf hc, SV.den, Sem.run_bind, Sem.run_pure, Result.andThen_ok]
    · cases hx
  case extract x i =>
    split at hx
    · rename_i l hl
      simp only [Option.map_eq_some_iff] at hx
      obtain ⟨v, hv, rfl⟩ := hx
      exact out_one v hw (by simp [execOp, hf.eval hl, SV.den, Instr.extract, denL_get, hv])
    · cases hx
  case fieldAddr s x f =>
    split at hx
    · rename_i b off fs hv hs
      split at hx
      · rename_i g hg
        split at hx
        · rename_i n hn
          split at hx
          · rename_i h1
            simp only [Bool.and_eq_true] at h1
            have h0 := SI.nn_den hpc off h1.2
            have h1 := Nat.le_of_ble_eq_true h1.1
            cases hx
            refine out_one _ hw ?_
            have hn0 : n ≠ 0 := by omega
            have e : (off.den ν).toNat + g.offset = (off.den ν + Int.ofNat g.offset).toNat := by
              have : Int.ofNat g.offset = (g.offset : Int) := rfl
              rw [this]; omega
            simp [execOp, hf.eval hv, SV.den, SI.den, SI.mkAdd_den, Instr.fieldAt, run_underlying hs, hg, Instr.sureAddr, fieldPlace, sizeT_run hn, hn0, add_none, e]
          · cases hx
        · cases hx
      · cases hx
    · cases hx
  case field s x f =>
    split at hx
    · rename_i cs fs hv hs
      split at hx
      · rename_i g hg
        split at hx
        · rename_i n ha hn
          split at hx
          · rename_i hle
            have hle := Nat.le_of_ble_eq_true hle
            cases hx
            refine out_one _ hw ?_
            simp [execOp, hf.eval hv, SV.den, Instr.field, run_underlying hs, hg, asAgg, part, aggT_run ha, sizeT_run hn]
            rw [denL_take, denL_drop]
          · cases hx
        · rename_i ha
          simp only [Option.map_eq_some_iff] at hx
          obtain ⟨v, hv2, rfl⟩ := hx
          refine out_one _ hw ?_
          simp [execOp, hf.eval hv, SV.den, Instr.field, run_underlying hs, hg, asAgg, part, aggT_run ha, denL_get, hv2]
        · cases hx
      · cases hx
    · cases hx
  case indexAddr t x i =>
    split at hx
    · rename_i b off len cap kk k e hv hi hu
      split at hx
      · rename_i n hn
        simp only [Option.map_eq_some_iff] at hx
        obtain ⟨l, hl, rfl⟩ := hx
        obtain ⟨r, hr, hd, hrun⟩ := indexX_run (ν := ν) (ρ := ρ) hpc hu hn hl kk (cap.den ν).toNat w
        exact out_V hw hr hd (fun v hv2 => by simp only [execOp, hf.eval hv, hf.eval hi, SV.den, Sem.run_bind, hrun v hv2, Result.andThen_ok, Sem.run_pure])
      · cases hx
    · rename_i b off kk k len e hv hi hu
      split at hx
      · rename_i n hn
        split at hx
        · rename_i hc
          have h1 := Nat.le_of_ble_eq_true hc
          cases hx
          refine out_one _ hw ?_
          have hb' : (0 : Int) ≤ Int.ofNat k ∧ Int.ofNat k < (len : Int) := ⟨Int.natCast_nonneg k, by show (k : Int) < (len : Int); omega⟩
          simp only [execOp, hf.eval hv, hf.eval hi, SV.den, SI.den, Instr.indexAt, asIntOf, Sem.run_bind, Sem.run_pure, Result.andThen_ok, run_underlying hu, Instr.sureAddr]
          simp only [Sem.run_ite, hb', and_self, if_true, Sem.run_bind, sizeT_run hn, Result.andThen_ok, Sem.run_pure, add_none]
          have ht : (Int.ofNat k).toNat = k := rfl
          have ho : (Int.ofNat off).toNat = off := rfl
          simp only [ht, ho, Int.toNat_natCast]
          try (split <;> simp [run_underlying hu])
        · cases hx
      · cases hx
    · rename_i b off kk k len e hno hv hi hu
      split at hx
      · rename_i n hn
        split at hx
        · cases hx
          obtain ⟨r, hr, hd, hrun⟩ := forkX_den (ν := ν) (k := k) len 0 hpc
          refine out_same _ (List.mem_map.2 ⟨r, hr, rfl⟩) hd ?_
          cases hr2 : r.2 with
          | none => trivial
          | some m =>
            obtain ⟨hm, _, hlt⟩ := hrun m hr2
            refine ⟨w, ?_, hw⟩
            have hb' : (0 : Int) ≤ (m : Int) ∧ (m : Int) < (len : Int) := ⟨by omega, by omega⟩
            simp only [execOp, hf.eval hv, hf.eval hi, SV.den, SI.den, hm, Instr.indexAt, asIntOf, Sem.run_bind, Sem.run_pure, Result.andThen_ok, run_underlying hu, Instr.sureAddr]
            simp only [Sem.run_ite, hb', and_self, if_true, Sem.run_bind, sizeT_run hn, Result.andThen_ok, Sem.run_pure, add_none]
            have ht : (Int.ofNat (off + m * n)).toNat = off + m * n := rfl
            have ho : (Int.ofNat off).toNat = off := rfl
            simp only [ht, ho, Int.toNat_natCast]
            try (split <;> simp [run_underlying hu])
        · cases hx
      · cases hx
    · cases hx
      exact out_same ([], .bad) (by simp) (pcDen_nil ν) trivial
    · cases hx
      exact out_same ([], .bad) (by simp) (pcDen_nil ν) trivial
    · cases hx
  case makeSlice t l c =>
    split at hx
    · rename_i x y hx1 hy1
      simp only [Option.map_eq_some_iff] at hx
      obtain ⟨l', hl, rfl⟩ := hx
      obtain ⟨r, hr, ν', ρ', hag, hd, hrun⟩ := makeX_run hw hpc hl
      refine out_VH rfl hr hag hd (fun y hy => ?_)
      obtain ⟨w', h1, h2⟩ := hrun y hy
      exact ⟨w', by simp only [execOp, hf.eval hx1, hf.eval hy1, SV.den, Sem.run_bind, h1, Result.andThen_ok, Sem.run_pure], h2⟩
    · cases hx
  case slice t x lo hi mx =>
    split at hx
    · rename_i v l h m hv hl hh hm
      simp only [Option.map_eq_some_iff] at hx
      obtain ⟨u, hu, rfl⟩ := hx
      refine out_one u hw ?_
      have := sliceX_run (ν := ν) (ρ := ρ) hu w
      simp [execOp, hf.eval hv, optL_den hf hl, optL_den hf hh, optL_den hf hm, this]
    · cases hx
  case call c =>
    obtain ⟨callee, args, argTypes⟩ := c
    cases callee with
    | invoke _ _ => simp at hx
    | value f =>
      simp only at hx
      split at hx
      · rename_i g first caps as hg has
        split at hx
        · rename_i fn hfn
          split at hx
          · rename_i hb
            cases hx
            refine out_same ([], .call g (first ++ as ++ caps)) (by simp) (pcDen_nil ν) ⟨?_, hw⟩
            have hng := pr.ng g fn hfn
            have hb' : fn.body.isNone = false := by cases h : fn.body <;> simp_all
            simp only [execOp, resolve, hf.eval hg, SV.den, Deferred.ofValue, Sem.run_bind, Sem.run_pure, Result.andThen_ok, invoke, evalL_toArray hf has, callFunc, run_program, hfn, hng, hb']
            simp [denL_append]
          · cases hx
        · cases hx
      · cases hx
        exact out_same ([], .bad) (by simp) (pcDen_nil ν) trivial
      · cases hx
    | builtin b =>
      cases b <;> simp only at hx <;> try (cases hx; done)
      case copy =>
        split at hx
        · rename_i d x t u hv ht
          split at hx
          · rename_i e hu
            have hargs := evalL_toArray hf hv
            have ht' : argTypes = #[t, u] := by apply Array.ext'; simpa using ht
            simp only [denL] at hargs
            split at hx
            · rename_i k hue
              split at hx
              · rename_i ls hls
                cases hx
                obtain ⟨r, hr, hd, hrd⟩ := listX_den hw hpc hls
                cases hr2 : r.2 with
                | none => exact out_same (r.1, .bad) (List.mem_flatMap.2 ⟨r, hr, by simp [hr2]⟩) hd trivial
                | some nl =>
                  have hreads := hrd nl hr2
                  cases happ : copyX P (r.1 ++ pc) hp t d nl with
                  | none => exact out_same ([], .fail) (List.mem_flatMap.2 ⟨r, hr, by simp [hr2, happ]⟩) (pcDen_nil ν) trivial
                  | some l =>
                    obtain ⟨q, hq, hqd, hrun⟩ := copyX_run (u := u) hw (pcDen_append hd hpc) hu hue hreads happ type
                    refine out_same (q.1 ++ r.1, match q.2 with | some v => .val v.1 v.2 | none => .bad) (List.mem_flatMap.2 ⟨r, hr, ?_⟩) (pcDen_append hqd hd) ?_
                    · simp only [hr2, happ]
                      exact List.mem_map.2 ⟨_, List.mem_map.2 ⟨q, hq, rfl⟩, rfl⟩
                    · cases hq2 : q.2 with
                      | none => trivial
                      | some y =>
                        obtain ⟨w', h1, h2⟩ := hrun y hq2
                        refine ⟨w', ?_, h2⟩
                        simp only [execOp, resolve, Sem.run_bind, Sem.run_pure, Result.andThen_ok, invoke, builtin, hargs, ht', h1]
              · cases hx
            · cases hx
          · cases hx
        · cases hx
      case append =>
        split at hx
        · rename_i s x t u hv ht
          split at hx
          · rename_i e hu
            split at hx
            · rename_i htu
              have htu := Nat.eq_of_beq_eq_true htu
              subst htu
              have hargs := evalL_toArray hf hv
              have ht' : argTypes = #[t, t] := by apply Array.ext'; simpa using ht
              simp only [denL] at hargs
              have hex : execOp a.eval ⟨dst, .call ⟨.builtin .append, args, argTypes⟩, type, pos, after, guard⟩ = execOp a.eval ⟨dst, .call ⟨.builtin .append, args, argTypes⟩, type, pos, after, guard⟩ := rfl
              split at hx
              · rename_i k hue
                split at hx
                · rename_i ls hls
                  cases hx
                  obtain ⟨r, hr, hd, hrd⟩ := listX_den hw hpc hls
                  cases hr2 : r.2 with
                  | none => exact out_same (r.1, .bad) (List.mem_flatMap.2 ⟨r, hr, by simp [hr2]⟩) hd trivial
                  | some nl =>
                    have hreads := hrd nl hr2
                    cases happ : appendR P nm (r.1 ++ pc) hp t s nl with
                    | none => exact out_same ([], .fail) (List.mem_flatMap.2 ⟨r, hr, by simp [hr2, happ]⟩) (pcDen_nil ν) trivial
                    | some l =>
                      obtain ⟨q, hq, ν', ρ', hag, hqd, hrun⟩ := appendR_run hw (pcDen_append hd hpc) hu hue hreads happ type
                      refine ⟨(q.1 ++ r.1, match q.2 with | some v => .val v.1 v.2 | none => .bad), List.mem_flatMap.2 ⟨r, hr, ?_⟩, ν', ρ', hag, fun h => (by simp [makes] at h), pcDen_append hqd hd, ?_⟩
                      · simp only [hr2, happ]
                        exact List.mem_map.2 ⟨_, List.mem_map.2 ⟨q, hq, rfl⟩, rfl⟩
                      · cases hq2 : q.2 with
                        | none => trivial
                        | some y =>
                          obtain ⟨w', h1, h2⟩ := hrun y hq2
                          refine ⟨w', ?_, h2⟩
                          simp only [execOp, resolve, Sem.run_bind, Sem.run_pure, Result.andThen_ok, invoke, builtin, hargs, ht', h1]
                · cases hx
              · split at hx
                · rename_i hav'
                  split at hx
                  · rename_i v h' happ
                    cases hx
                    obtain ⟨ν', ρ', w', hag, hr, hw'⟩ := appendX_run hw hav' happ type
                    refine ⟨([], .val v h'), by simp, ν', ρ', hag, fun h => (by simp [makes] at h), pcDen_nil ν, ⟨w', ?_, hw'⟩⟩
                    simp only [execOp, resolve, Sem.run_bind, Sem.run_pure, Result.andThen_ok, invoke, builtin, hargs, ht', hr]
                  · cases hx
                · cases hx
            · cases hx
          · rename_i kn hun
            split at hx
            · rename_i kq n
              simp only [Option.map_eq_some_iff] at hx
              obtain ⟨l, happ, rfl⟩ := hx
              have hargs := evalL_toArray hf hv
              have ht' : argTypes = #[t, u] := by apply Array.ext'; simpa using ht
              simp only [denL] at hargs
              obtain ⟨q, hq, ν', ρ', hag, hqd, hrun⟩ := appendZ_run (kq := kq) hw hpc hun happ type
              refine ⟨(q.1, match q.2 with | some v => .val v.1 v.2 | none => .bad), List.mem_map.2 ⟨q, hq, rfl⟩, ν', ρ', hag, fun h => (by simp [makes] at h), hqd, ?_⟩
              cases hq2 : q.2 with
              | none => trivial
              | some y =>
                obtain ⟨w', h1, h2⟩ := hrun y hq2
                refine ⟨w', ?_, h2⟩
                simp only [execOp, resolve, Sem.run_bind, Sem.run_pure, Result.andThen_ok, invoke, builtin, hargs, ht']
                simp only [SV.den] at h1 ⊢
                simp only [h1, Result.andThen_ok]
            · cases hx
          · cases hx
        · cases hx
      case len =>
        split at hx
        · rename_i t hv ht
          split at hx
          · rename_i e hu
            cases hx
            refine out_one _ hw ?_
            have := evalL_toArray hf hv
            simp only [execOp, resolve, Sem.run_bind, Sem.run_pure, Result.andThen_ok, invoke, builtin, this, Builtin.len_, ht]
            simp [denL, SV.den, run_underlying hu, goInt, SI.den]
          · cases hx
        · rename_i i t hv ht
          split at hx
          · rename_i e hu
            cases hx
            refine out_one _ hw ?_
            have := evalL_toArray hf hv
            simp only [execOp, resolve, Sem.run_bind, Sem.run_pure, Result.andThen_ok, invoke, builtin, this, Builtin.len_, ht]
            simp [denL, SV.den, run_underlying hu, goInt, SI.den]
          · cases hx
        · rename_i b o n c t hv ht
          split at hx
          · rename_i e hu
            cases hx
            refine out_one _ hw ?_
            have := evalL_toArray hf hv
            simp only [execOp, resolve, Sem.run_bind, Sem.run_pure, Result.andThen_ok, invoke, builtin, this, Builtin.len_, ht]
            simp [denL, SV.den, run_underlying hu, goInt, SI.mkNat_den]
          · cases hx
        · cases hx
  all_goals (cases hx)
end
end Go.Sy
end

section
namespace Go.Sy
open Go

section
variable {P : Program} {G : Type} {B : Base}

theorem bindL_mem {α β : Type} {f : α → Option (List β)} : ∀ {l : List α} {r : List β}, bindL f l = some r → ∀ x ∈ l, ∃ y, f x = some y ∧ ∀ z ∈ y, z ∈ r
  | [], _, _, x, hx => by cases hx
  | a :: l, r, h, x, hx => by
    unfold bindL at h
    split at h
    · rename_i p q hp hq
      cases h
      rcases List.mem_cons.1 hx with rfl | hx
      · exact ⟨p, hp, fun z hz => List.mem_append_left _ hz⟩
      · obtain ⟨y, hy, hm⟩ := bindL_mem hq x hx
        exact ⟨y, hy, fun z hz => List.mem_append_right _ (hm z hz)⟩
    · cases h

theorem pcB_eq : ∀ {a b : PC}, leafBeq.pcB a b = true → a = b
  | [], [], _ => rfl
  | (c, x) :: r, (d, y) :: s, h => by
    simp only [leafBeq.pcB, Bool.and_eq_true] at h
    rw [SB.beq_eq h.1.1, bBeq_eq h.1.2, pcB_eq h.2]
  | [], _ :: _, h => by simp [leafBeq.pcB] at h
  | _ :: _, [], h => by simp [leafBeq.pcB] at h
theorem hB_eq : ∀ {a b : Heap}, leafBeq.hB a b = true → a = b
  | [], [], _ => rfl
  | (n, x) :: r, (m, y) :: s, h => by
    simp only [leafBeq.hB, Bool.and_eq_true] at h
    rw [Nat.eq_of_beq_eq_true h.1.1, SBk.beq_eq h.1.2, hB_eq h.2]
  | [], _ :: _, h => by simp [leafBeq.hB] at h
  | _ :: _, [], h => by simp [leafBeq.hB] at h
theorem leafBeq_eq {a b : Leaf} (h : leafBeq a b = true) : a = b := by
  obtain ⟨ea, fa, pa, ha⟩ := a
  obtain ⟨eb, fb, pb, hb⟩ := b
  simp only [leafBeq, Bool.and_eq_true] at h
  obtain ⟨⟨⟨h1, h2⟩, h3⟩, h4⟩ := h
  rw [beqL_eq h2, pcB_eq h3, hB_eq h4]
  cases ea <;> cases eb <;> simp at h1
  · rfl
  · rw [h1]
  · rfl
  · rfl
theorem leafsB_eq : ∀ {a b : List Leaf}, leafsB a b = true → a = b
  | [], [], _ => rfl
  | x :: xs, y :: ys, h => by
    simp only [leafsB, Bool.and_eq_true] at h
    rw [leafBeq_eq h.1, leafsB_eq h.2]
  | [], _ :: _, h => by simp [leafsB] at h
  | _ :: _, [], h => by simp [leafsB] at h
theorem bsB_eq : ∀ {a b : List Bool}, bsB a b = true → a = b
  | [], [], _ => rfl
  | x :: xs, y :: ys, h => by
    simp only [bsB, Bool.and_eq_true] at h
    rw [bBeq_eq h.1, bsB_eq h.2]
  | [], _ :: _, h => by simp [bsB] at h
  | _ :: _, [], h => by simp [bsB] at h
def NotBad : SEx → Prop
  | .bad => False
  | _ => True

/-- A leaf holds of a frame and a world. -/
def SatL (lo hi : Nat) (ν0 : Env G) (ρ0 : Nat → Nat) (B : Base) (L : Leaf) (a : Act) (w : World) : Prop :=
  ∃ ν ρ, Agree lo hi ν0 ν ρ0 ρ ∧ pcDen ν L.pc ∧ (NotBad L.ex → FR ν ρ L.fr a ∧ HW B ν ρ L.hp w)

def LQ (Q : Exit → Act → World → Prop) : SEx → Act → World → Prop
  | .normal, a, w => Q .normal a w
  | .exit i, a, w => Q (.exit i) a w
  | .ret, a, w => Q .ret a w
  | .bad, _, _ => False

def RQ (K : Act → World → Prop) (Q : Exit → Act → World → Prop) : SEx → Act → World → Prop
  | .normal, a, w => K a w
  | .exit i, a, w => Q (.exit i) a w
  | .ret, a, w => Q .ret a w
  | .bad, _, _ => False

/-- Whatever 'a' says, 'b' says. -/
structure Cov (a b : Leaf) : Prop where
  ex : a.ex = b.ex
  st : NotBad a.ex → a.fr = b.fr ∧ a.hp = b.hp
  pc : ∀ c ∈ b.pc, c ∈ a.pc
theorem Cov.refl (a : Leaf) : Cov a a := ⟨rfl, fun _ => ⟨rfl, rfl⟩, fun _ h => h⟩
theorem Cov.trans {a b c : Leaf} (h : Cov a b) (g : Cov b c) : Cov a c :=
  ⟨h.ex.trans g.ex, fun hb => ⟨(h.st hb).1.trans (g.st (h.ex ▸ hb)).1, (h.st hb).2.trans (g.st (h.ex ▸ hb)).2⟩, fun x hx => h.pc x (g.pc x hx)⟩
theorem Cov.sat {a b : Leaf} (h : Cov a b) {lo hi : Nat} {ν0 : Env G} {ρ0 : Nat → Nat} {B : Base} {act : Act} {w : World} (hs : SatL lo hi ν0 ρ0 B a act w) : SatL lo hi ν0 ρ0 B b act w := by
  obtain ⟨ν, ρ, h1, h2, h3⟩ := hs
  refine ⟨ν, ρ, h1, fun c x hm => h2 c x (h.pc _ hm), fun hb => ?_⟩
  have hb' : NotBad a.ex := h.ex ▸ hb
  obtain ⟨e1, e2⟩ := h.st hb'
  rw [← e1, ← e2]
  exact h3 hb'
theorem exB_eq {a b : SEx} (h : exB a b = true) : a = b := by
  cases a <;> cases b <;> simp only [exB, Bool.false_eq_true] at h <;> first | rfl | rw [Nat.eq_of_beq_eq_true h]
theorem pcHas_mem {c : SB × Bool} : ∀ {p : PC}, pcHas c p = true → c ∈ p
  | [], h => by cases h
  | d :: r, h => by
    simp only [pcHas, Bool.or_eq_true, Bool.and_eq_true] at h
    rcases h with h | h
    · have e : c = d := Prod.ext (SB.beq_eq h.1) (bBeq_eq h.2)
      rw [e]; simp
    · exact List.mem_cons_of_mem _ (pcHas_mem h)
theorem pcSub_mem {p : PC} : ∀ {q : PC}, pcSub p q = true → ∀ c ∈ q, c ∈ p
  | [], _, c, h => by cases h
  | d :: r, h, c, hc => by
    simp only [pcSub, Bool.and_eq_true] at h
    rcases List.mem_cons.1 hc with rfl | hc
    · exact pcHas_mem h.1
    · exact pcSub_mem h.2 c hc
theorem covB_cov {a b : Leaf} (h : covB a b = true) : Cov a b := by
  simp only [covB, Bool.and_eq_true] at h
  refine ⟨exB_eq h.1.1, fun hb => ?_, pcSub_mem h.2⟩
  have h2 := h.1.2
  cases hex : a.ex with
  | bad => rw [hex] at hb; exact hb.elim
  | normal => rw [hex] at h2; simp only [Bool.and_eq_true] at h2; exact ⟨beqL_eq h2.1, hB_eq h2.2⟩
  | ret => rw [hex] at h2; simp only [Bool.and_eq_true] at h2; exact ⟨beqL_eq h2.1, hB_eq h2.2⟩
  | exit i => rw [hex] at h2; simp only [Bool.and_eq_true] at h2; exact ⟨beqL_eq h2.1, hB_eq h2.2⟩
def CovL (t u : List Leaf) : Prop := ∀ L ∈ t, ∃ M ∈ u, Cov L M
theorem addL_cov : ∀ {t u : List Leaf}, (∀ M ∈ u, M ∈ addL t u) ∧ CovL t (addL t u)
  | [], u => ⟨fun _ h => h, fun L h => by cases h⟩
  | a :: t, u => by
    unfold addL
    split
    · rename_i hb
      obtain ⟨M, hM, hc⟩ := List.any_eq_true.1 hb
      obtain ⟨h1, h2⟩ := addL_cov (t := t) (u := u)
      refine ⟨h1, fun L hL => ?_⟩
      rcases List.mem_cons.1 hL with rfl | hL
      · exact ⟨M, h1 M hM, covB_cov hc⟩
      · exact h2 L hL
    · obtain ⟨h1, h2⟩ := addL_cov (t := t) (u := u ++ [a])
      refine ⟨fun M hM => h1 M (List.mem_append_left _ hM), fun L hL => ?_⟩
      rcases List.mem_cons.1 hL with rfl | hL
      · exact ⟨L, h1 L (by simp), Cov.refl L⟩
      · exact h2 L hL
/-- A frontier's state is met by another one. -/
def CovF (x : List Bool × List Leaf) (F : Front) : Prop := ∃ u, (x.1, u) ∈ F ∧ CovL x.2 u
theorem CovF.of_mem {x : List Bool × List Leaf} {F : Front} (h : x ∈ F) : CovF x F := ⟨x.2, h, fun L hL => ⟨L, hL, Cov.refl L⟩⟩
theorem CovF.trans {x : List Bool × List Leaf} {F F' : Front} (h : CovF x F) (g : ∀ y ∈ F, CovF y F') : CovF x F' := by
  obtain ⟨u, hu, hc⟩ := h
  obtain ⟨v, hv, hc'⟩ := g _ hu
  refine ⟨v, hv, fun L hL => ?_⟩
  obtain ⟨M, hM, c1⟩ := hc L hL
  obtain ⟨N, hN, c2⟩ := hc' M hM
  exact ⟨N, hN, c1.trans c2⟩
theorem merge_mem {l : List Bool} {t : List Leaf} : ∀ {F G : Front}, merge l t F = some G → CovF (l, t) G ∧ ∀ x ∈ F, CovF x G
  | [], G, h => by simp only [merge, Option.some.injEq] at h; subst h; exact ⟨CovF.of_mem (by simp), fun x hx => by cases hx⟩
  | (m, u) :: r, G, h => by
    unfold merge at h
    split at h
    · rename_i hb
      cases h
      obtain ⟨h1, h2⟩ := addL_cov (t := t) (u := u)
      rw [bsB_eq hb]
      refine ⟨⟨_, List.mem_cons_self .., h2⟩, fun x hx => ?_⟩
      rcases List.mem_cons.1 hx with rfl | hx
      · exact ⟨_, List.mem_cons_self .., fun L hL => ⟨L, h1 L hL, Cov.refl L⟩⟩
      · exact CovF.of_mem (List.mem_cons_of_mem _ hx)
    · simp only [Option.map_eq_some_iff] at h
      obtain ⟨G', hG, rfl⟩ := h
      obtain ⟨h1, h2⟩ := merge_mem hG
      have up : ∀ {x}, CovF x G' → CovF x ((m, u) :: G') := fun ⟨v, hv, hc⟩ => ⟨v, List.mem_cons_of_mem _ hv, hc⟩
      refine ⟨up h1, fun x hx => ?_⟩
      rcases List.mem_cons.1 hx with rfl | hx
      · exact CovF.of_mem (List.mem_cons_self ..)
      · exact up (h2 x hx)

theorem wantX_sound {ν : Env G} {ρ : Nat → Nat} {ops : Array Oper} {fr : List SV} {pc : PC} {o : Oper} {a : Act} {ws : List (PC × Bool)} (h : wantX ops fr pc o = some ws) (hf : FR ν ρ fr a) (hpc : pcDen ν pc) :
    ∃ x ∈ ws, pcDen ν x.1 ∧ Region.wanted o (yielded ops a.tmps) = x.2 := by
  unfold wantX at h
  split at h
  · rename_i hg
    cases h
    exact ⟨([], true), by simp, pcDen_nil ν, by simp [Region.wanted, hg]⟩
  · rename_i g want hg
    split at h
    · rename_i hd
      cases h
      refine ⟨([], false), by simp, pcDen_nil ν, ?_⟩
      simp [Region.wanted, hg, yielded, hd]
    · rename_i d hd
      have hy0 : yielded ops a.tmps g = match a.tmps[d]? with | some (.bool b) => some b | _ => none := by
        unfold yielded
        rw [hd]
        simp only [Option.bind_some]
        cases a.tmps[d]? with
        | none => rfl
        | some v => cases v <;> rfl
      have hy : ∀ v, fr[d]? = some v → v.isDead = false → yielded ops a.tmps g = match v.den ν ρ with | .bool b => some b | _ => none := by
        intro v hv hdv
        rw [hy0, hf.tmps d v hv hdv]
        cases v.den ν ρ <;> rfl
      split at h
      · rename_i e he
        replace hy := hy _ he rfl
        simp only [SV.den] at hy
        split at h
        · rename_i b hb
          cases h
          have := SB.known_den hpc hb
          refine ⟨([], bBeq b want), by simp, pcDen_nil ν, ?_⟩
          simp only [Region.wanted, hg, hy, this]
          cases b <;> cases want <;> rfl
        · cases h
          cases hq : e.den ν
          · refine ⟨([asm e false], !want), by simp, pcDen_asm1 hq, ?_⟩
            simp only [Region.wanted, hg, hy, hq]
            cases want <;> rfl
          · refine ⟨([asm e true], want), by simp, pcDen_asm1 hq, ?_⟩
            simp only [Region.wanted, hg, hy, hq]
            cases want <;> rfl
      · cases h
      · cases h
      · cases h
      · cases h
      · rename_i hno1 hno2 hno4 hno5 hno3
        cases h
        refine ⟨([], false), by simp, pcDen_nil ν, ?_⟩
        have : yielded ops a.tmps g = none := by
          cases hx : fr[d]? with
          | none =>
            have h1 : fr.length ≤ d := List.getElem?_eq_none_iff.1 hx
            rw [hy0, Array.getElem?_eq_none (by rw [hf.size]; exact h1)]
          | some s =>
            cases s with
            | bool e => exact absurd hx (hno1 e)
            | opq i => exact absurd hx (hno2 i)
            | dead => exact absurd hx hno3
            | gv f g i => exact absurd hx (hno4 f g i)
            | osl b l c => exact absurd hx (hno5 b l c)
            | _ => rw [hy _ hx rfl]; simp [SV.den]
        simp [Region.wanted, hg, this]

def resOne (tmps : Array Value) : ResultVar → Sem Value
  | .tmp t => pure (tmps.getD t undef)
  | .cell a t => do loadVar t (← asAddr (tmps.getD a undef))

theorem resX_sound {ν : Env G} {ρ : Nat → Nat} {hp : Heap} {w : World} (hw : HW B ν ρ hp w) {fr : List SV} {a : Act} (hf : FR ν ρ fr a) : ∀ {rs : List ResultVar} {vs : List SV}, resX P fr hp rs = some vs →
    (rs.mapM (resOne a.tmps)).run P w = .ok (denL ν ρ vs) w
  | [], vs, h => by simp only [resX, Option.some.injEq] at h; subst h; simp [denL]
  | .tmp t :: r, vs, h => by
    unfold resX at h
    split at h
    · cases h
    · rename_i hdd
      simp only [Option.map_eq_some_iff] at h
      obtain ⟨vs', hv, rfl⟩ := h
      have hg : (resOne a.tmps (.tmp t)).run P w = .ok ((fget fr t).den ν ρ) w := by
        simp only [resOne, Sem.run_pure, hf.get (by simpa using hdd)]
      simp only [List.mapM_cons, Sem.run_bind, hg, Result.andThen_ok, resX_sound hw hf hv, Sem.run_pure, denL]
  | .cell q t :: r, vs, h => by
    unfold resX at h
    split at h
    · rename_i v vs' hv hvs
      cases h
      have hnd : (fget fr q).isDead = false := by
        unfold loadX at hv
        split at hv
        · rename_i b off heq; rw [heq]; rfl
        · cases hv
      have hg : a.tmps.getD q undef = (fget fr q).den ν ρ := hf.get hnd
      obtain ⟨x0, hx0, _, hl0⟩ := loadX_run hw (pcDen_nil ν) hv
      have hx1 := List.mem_singleton.1 hx0
      subst hx1
      have hl := hl0 v rfl
      have hp : ∃ x, (fget fr q).den ν ρ = .pointer (some x) := by
        unfold loadX at hv
        split at hv
        · rename_i b off heq; rw [heq]; exact ⟨_, rfl⟩
        · cases hv
      obtain ⟨x, hx⟩ := hp
      rw [hx] at hl hg
      simp only [Instr.loadAt, Instr.sureAddr, Sem.run_bind, Sem.run_pure, Result.andThen_ok] at hl
      have ho : (resOne a.tmps (.cell q t)).run P w = .ok (v.den ν ρ) w := by
        simp only [resOne, Sem.run_bind, hg, asAddr, Sem.run_pure, Result.andThen_ok, hl]
      simp only [List.mapM_cons, Sem.run_bind, ho, Result.andThen_ok, resX_sound hw hf hvs, Sem.run_pure, denL]
    · cases h

theorem results_sound {ν : Env G} {ρ : Nat → Nat} {hp : Heap} {w : World} (hw : HW B ν ρ hp w) {fn : Func} {fr : List SV} {a : Act} (hf : FR ν ρ fr a) {vs : List SV} (h : resX P fr hp fn.results.toList = some vs) :
    (results fn a.tmps).run P w = .ok ((oneOr vs).den ν ρ) w := by
  have h1 := resX_sound (P := P) hw hf h
  have he : results fn a.tmps = (do let vs ← fn.results.mapM (resOne a.tmps); pure (if h : vs.size = 1 then vs[0] else .tuple vs)) := rfl
  rw [he, Array.mapM_eq_mapM_toList]
  simp only [Sem.run_bind, Sem.run_map, h1, Result.andThen_ok, Sem.run_pure]
  congr 1
  match vs with
  | [] => simp [denL, oneOr, SV.den]
  | [x] => simp [denL, oneOr]
  | x :: y :: r => simp [denL, oneOr, SV.den]
end
end Go.Sy
end

section
namespace Go.Sy
open Go

def NP (Q : Exit → Act → World → Prop) : Prop := ∀ ch a w, Q (.panic ch) a w → False

/-- A piece of a piece of code. -/
inductive Part : Code → Code → Prop
  | refl (c : Code) : Part c c
  | seqL {a b c : Code} : Part (.seq a b) c → Part a c
  | seqR {a b c : Code} : Part (.seq a b) c → Part b c
  | block {i : Nat} {a c : Code} : Part (.block i a) c → Part a c
  | loop {a c : Code} : Part (.loop a) c → Part a c
  | condL {x : Operand} {a b c : Code} : Part (.cond x a b) c → Part a c
  | condR {x : Operand} {a b c : Code} : Part (.cond x a b) c → Part b c

def PartOf (P : Program) (f : Nat) (c : Code) : Prop := ∃ (fn : Func) (body : Code), P.funcs[f]? = some fn ∧ fn.body = some body ∧ Part c body

/-- What is owed of an oracle. -/
structure OOK {G : Type} (P : Program) (O : Orac) (I : In G) : Prop where
  call : ∀ {f lo : Nat} {args : List SV} {pc : PC} {hp : Heap} {cs : List CLeaf}, O.call f lo args pc hp = some (some cs) → ∀ (sz : Nat), 64 ≤ sz → ∀ (B : Base) (ν : Env G) (ρ : Nat → Nat) (w : World) (R : Ending → World → Prop), ν.I = I → pcDen ν pc → HW B ν ρ hp w →
    (∀ c ∈ cs, ∀ ν' ρ' w', Agree lo (lo + sz) ν ν' ρ ρ' → pcDen ν' c.pc → c.bad = false ∧ (HW B ν' ρ' c.hp w' → R (.returned (c.v.den ν' ρ')) w')) → Calls P f (denL ν ρ args).toArray w R
  loop : ∀ {f nm : Nat} {a : Code} {fr : List SV} {pc : PC} {hp : Heap} {ls : List Leaf}, PartOf P f (.loop a) → O.loop f (site a) nm fr pc hp = some (some ls) → ∀ (sub : Nat), 64 ≤ sub → ∀ (B : Base) (ν : Env G) (ρ : Nat → Nat) (Q : Exit → Act → World → Prop), NP Q → ν.I = I →
    (∀ L ∈ ls, ∀ a w, SatL nm (nm + sub) ν ρ B L a w → LQ Q L.ex a w) → ∀ act w, pcDen ν pc → FR ν ρ fr act → HW B ν ρ hp w → (Code.loop a).wp P Q act w
  op : ∀ {nm : Nat} {fr : List SV} {pc : PC} {hp : Heap} {o : Oper} {outs : List (PC × ORes)}, O.op nm fr pc hp o = some outs → ∀ (B : Base) (ν : Env G) (ρ : Nat → Nat) (a : Act) (w : World), ν.I = I → pureOp o.op = false → FR ν ρ fr a → pcDen ν pc → HW B ν ρ hp w → OutsOK P B o a w hp nm ν ρ outs
  tail : ∀ {f rid n : Nat} {ops : Array Oper}, PartOf P f (.region rid ops true) → O.tail f rid = some n → Region.lexTailB .any ops n = true
  order : ∀ {f rid : Nat} {l : OT} {ops : Array Oper}, PartOf P f (.region rid ops true) → O.order f rid = some l → ordOK ops l = true

theorem opO_pure {P : Program} {O : Orac} {nm : Nat} {fr : List SV} {pc : PC} {hp : Heap} {o : Oper} (h : pureOp o.op = true) : opO P O nm fr pc hp o = opX P nm fr pc hp o := by
  unfold opO; rw [if_pos h]
theorem opO_sound {P : Program} {G : Type} {O : Orac} {I : In G} {B : Base} {ν : Env G} {ρ : Nat → Nat} {hp : Heap} {w : World} (pr : PR P) (oo : OOK P O I) (hI : ν.I = I) {nm : Nat} {fr : List SV} {pc : PC} {o : Oper} {a : Act} {outs : List (PC × ORes)} (hx : opO P O nm fr pc hp o = some outs) (hf : FR ν ρ fr a) (hpc : pcDen ν pc) (hw : HW B ν ρ hp w) :
    OutsOK P B o a w hp nm ν ρ outs := by
  unfold opO at hx
  split at hx
  · exact opX_sound pr hx hf hpc hw
  · rename_i hp'
    split at hx
    · rename_i r hr
      cases hx
      exact oo.op hr B ν ρ a w hI (by simpa using hp') hf hpc hw
    · exact opX_sound pr hx hf hpc hw

structure AllOK {G : Type} (P : Program) (O : Orac) (I : In G) (n : Nat) : Prop where
  code : ∀ {lo sz f it : Nat} {c : Code} {fr : List SV} {pc : PC} {hp : Heap} {ls : List Leaf}, codeX0 P O lo sz f n it c fr pc hp = some ls → PartOf P f c → ∀ (B : Base) (ν0 : Env G) (ρ0 : Nat → Nat) (Q : Exit → Act → World → Prop), ν0.I = I → NP Q →
    (∀ L ∈ ls, ∀ a w, SatL lo (lo + sz) ν0 ρ0 B L a w → LQ Q L.ex a w) → ∀ a w, SatL lo (lo + sz) ν0 ρ0 B ⟨.normal, fr, pc, hp⟩ a w → c.wp P Q a w
  loops : ∀ {lo sz f it k : Nat} {c : Code} {ls ls' : List Leaf}, loopX0 P O lo sz f n it k c ls = some ls' → PartOf P f c → ∀ (B : Base) (ν0 : Env G) (ρ0 : Nat → Nat) (Q : Exit → Act → World → Prop), ν0.I = I → NP Q →
    (∀ L ∈ ls', ∀ a w, SatL lo (lo + sz) ν0 ρ0 B L a w → LQ Q L.ex a w) → ∀ L ∈ ls, ∀ a w, SatL lo (lo + sz) ν0 ρ0 B L a w → RQ (Code.rounds P c Q k) Q L.ex a w
  ops : ∀ {lo sz f it rid : Nat} {ops : Array Oper} {j k : Nat} {ls ls' : List Leaf}, opsX0 P O lo sz f n it rid ops j k ls = some ls' → ∀ (B : Base) (ν0 : Env G) (ρ0 : Nat → Nat) (Q : Exit → Act → World → Prop), ν0.I = I → NP Q →
    (∀ L ∈ ls', ∀ a w, SatL lo (lo + sz) ν0 ρ0 B L a w → LQ Q L.ex a w) → ∀ L ∈ ls, ∀ a w, SatL lo (lo + sz) ν0 ρ0 B L a w → RQ (wpOps P ops Q (List.range' j k)) Q L.ex a w
  step : ∀ {lo sz f it rid : Nat} {ops : Array Oper} {j : Nat} {ls ls' : List Leaf}, stepX0 P O lo sz f n it rid ops j ls = some ls' → ∀ (B : Base) (ν0 : Env G) (ρ0 : Nat → Nat) (Q : Exit → Act → World → Prop) (K : Act → World → Prop), ν0.I = I → NP Q →
    (∀ L ∈ ls', ∀ a w, SatL lo (lo + sz) ν0 ρ0 B L a w → RQ K Q L.ex a w) → ∀ L ∈ ls, ∀ a w, SatL lo (lo + sz) ν0 ρ0 B L a w → RQ (wpOp P ops Q j K) Q L.ex a w
  call : ∀ {lo sz f : Nat} {args : List SV} {pc : PC} {hp : Heap} {cs : List CLeaf}, callX0 P O lo sz n f args pc hp = some cs → ∀ (B : Base) (ν : Env G) (ρ : Nat → Nat) (w : World) (R : Ending → World → Prop), ν.I = I → pcDen ν pc → HW B ν ρ hp w →
    (∀ c ∈ cs, ∀ ν' ρ' w', Agree lo (lo + sz) ν ν' ρ ρ' → pcDen ν' c.pc → c.bad = false ∧ (HW B ν' ρ' c.hp w' → R (.returned (c.v.den ν' ρ')) w')) → Calls P f (denL ν ρ args).toArray w R
  draw : ∀ {lo sz f it rid : Nat} {ops : Array Oper} {k : Nat} {F : Front} {t : List Leaf}, drawX0 P O lo sz f n it rid ops k F = some t → Region.noSelect ops = true → ∀ (B : Base) (ν0 : Env G) (ρ0 : Nat → Nat) (Q : Exit → Act → World → Prop), ν0.I = I → NP Q →
    (∀ L ∈ t, ∀ a w, SatL lo (lo + sz) ν0 ρ0 B L a w → LQ Q L.ex a w) → ∀ l ls, (l, ls) ∈ F → ∀ L ∈ ls, ∀ a w, SatL lo (lo + sz) ν0 ρ0 B L a w → RQ (wpAny P .any ops Q k l.toArray) Q L.ex a w
  level : ∀ {lo sz f it rid : Nat} {ops : Array Oper} {F G1 G' : Front}, levelX0 P O lo sz f n it rid ops F G1 = some G' → (∀ x ∈ G1, CovF x G') ∧ (Region.noSelect ops = true → ∀ (B : Base) (ν0 : Env G) (ρ0 : Nat → Nat) (Q : Exit → Act → World → Prop) (k : Nat), ν0.I = I → NP Q →
    (∀ l ls, (l, ls) ∈ G' → ∀ L ∈ ls, ∀ a w, SatL lo (lo + sz) ν0 ρ0 B L a w → RQ (wpAny P .any ops Q k l.toArray) Q L.ex a w) → ∀ l ls, (l, ls) ∈ F → ∀ L ∈ ls, ∀ a w, SatL lo (lo + sz) ν0 ρ0 B L a w → RQ (wpAny P .any ops Q (k + 1) l.toArray) Q L.ex a w)
  side : ∀ {lo sz f it rid : Nat} {ops : Array Oper} {l : List Bool} {t : List Leaf} {is : List Nat} {G1 G' : Front}, sideX0 P O lo sz f n it rid ops l t is G1 = some G' → (∀ x ∈ G1, CovF x G') ∧ ∀ i ∈ is, ∃ m t', m < n ∧ stepX0 P O lo sz f m it rid ops i t = some t' ∧ CovF (l.set i true, t') G'

section
variable {P : Program} {G : Type} {O : Orac} {I : In G}

theorem ok_side {n : Nat} (ih : ∀ m, m < n → AllOK P O I m) : ∀ {lo sz f it rid : Nat} {ops : Array Oper} {l : List Bool} {t : List Leaf} {is : List Nat} {G1 G' : Front}, sideX0 P O lo sz f n it rid ops l t is G1 = some G' → (∀ x ∈ G1, CovF x G') ∧ ∀ i ∈ is, ∃ m t', m < n ∧ stepX0 P O lo sz f m it rid ops i t = some t' ∧ CovF (l.set i true, t') G' := by
  intro lo sz f it rid ops l t is G1 G' h
  cases n with
  | zero => simp [sideX0] at h
  | succ n =>
    unfold sideX0 at h
    cases is with
    | nil => simp only [Option.some.injEq] at h; subst h; exact ⟨fun _ h => CovF.of_mem h, fun i hi => by cases hi⟩
    | cons i r =>
      simp only at h
      split at h
      · cases h
      · rename_i t' ht
        split at h
        · cases h
        · rename_i G2 hm
          obtain ⟨m1, m2⟩ := merge_mem hm
          obtain ⟨s1, s2⟩ := (ih n (by omega)).side h
          refine ⟨fun x hx => (m2 x hx).trans s1, fun j hj => ?_⟩
          rcases List.mem_cons.1 hj with rfl | hj
          · exact ⟨n, t', by omega, ht, m1.trans s1⟩
          · obtain ⟨m, t'', hm, h1, h2⟩ := s2 j hj
            exact ⟨m, t'', by omega, h1, h2⟩

theorem LQ_of_RQ {Q : Exit → Act → World → Prop} {ex : SEx} {a : Act} {w : World} : LQ Q ex a w ↔ RQ (Q .normal) Q ex a w := by cases ex <;> exact Iff.rfl

theorem ok_ops {n : Nat} (ih : ∀ m, m < n → AllOK P O I m) {lo sz f it rid : Nat} {ops : Array Oper} {j k : Nat} {ls ls' : List Leaf} (h : opsX0 P O lo sz f n it rid ops j k ls = some ls') (B : Base) (ν0 : Env G) (ρ0 : Nat → Nat) (Q : Exit → Act → World → Prop) (hI : ν0.I = I) (hQ : NP Q)
    (hl : ∀ L ∈ ls', ∀ a w, SatL lo (lo + sz) ν0 ρ0 B L a w → LQ Q L.ex a w) : ∀ L ∈ ls, ∀ a w, SatL lo (lo + sz) ν0 ρ0 B L a w → RQ (wpOps P ops Q (List.range' j k)) Q L.ex a w := by
  cases n with
  | zero => simp [opsX0] at h
  | succ n =>
    unfold opsX0 at h
    cases k with
    | zero =>
      simp only [Option.some.injEq] at h
      subst h
      intro L hL a w hs
      have := LQ_of_RQ.1 (hl L hL a w hs)
      simpa [wpOps] using this
    | succ k =>
      simp only at h
      split at h
      · rename_i l1 h1
        have h2 := (ih n (by omega)).ops h B ν0 ρ0 Q hI hQ hl
        have h3 := (ih n (by omega)).step h1 B ν0 ρ0 Q (wpOps P ops Q (List.range' (j + 1) k)) hI hQ h2
        intro L hL a w hs
        have h4 := h3 L hL a w hs
        rw [List.range'_succ]
        have he : wpOps P ops Q (j :: List.range' (j + 1) k) = fun a w => wpOp P ops Q j (wpOps P ops Q (List.range' (j + 1) k)) a w := by
          funext a w; exact wpOps_cons j _ a w
        rw [he]
        exact h4
      · cases h

theorem pure_yields {nm : Nat} {fr : List SV} {pc : PC} {hp : Heap} {o : Oper} {a : Act} {ν : Env G} {ρ : Nat → Nat} {outs : List (PC × ORes)} (hx : opX P nm fr pc hp o = some outs) (hp' : pureOp o.op = true) (hf : FR ν ρ fr a) (hpc : pcDen ν pc) :
    outs = [([], .bad)] ∨ ∃ v, outs = [([], .val v hp)] ∧ ∀ w, (execOp a.eval o).run P w = .ok (.value (v.den ν ρ)) w := by
  obtain ⟨dst, op, type, pos, after, guard⟩ := o
  unfold opX at hx
  cases op <;> simp only [pureOp, Bool.false_eq_true] at hp' <;> simp only at hx
  case move x =>
    simp only [Option.map_eq_some_iff] at hx
    obtain ⟨v, hv, rfl⟩ := hx
    exact .inr ⟨v, rfl, fun w => by simp [execOp, hf.eval hv]⟩
  case assign x =>
    simp only [Option.map_eq_some_iff] at hx
    obtain ⟨v, hv, rfl⟩ := hx
    exact .inr ⟨v, rfl, fun w => by simp [execOp, hf.eval hv]⟩
  case nilCheck x =>
    split at hx
    · rename_i b off hv
      cases hx
      exact .inr ⟨_, rfl, fun w => by simp [execOp, hf.eval hv, SV.den]⟩
    · rename_i f p c hv
      cases hx
      exact .inr ⟨_, rfl, fun w => by simp [execOp, hf.eval hv, SV.den]⟩
    · cases hx; exact .inl rfl
    · cases hx; exact .inl rfl
    · cases hx
  case unOp op t x =>
    split at hx
    · rename_i u hu
      simp only [Option.map_eq_some_iff] at hx
      obtain ⟨v, hv, rfl⟩ := hx
      exact .inr ⟨v, rfl, fun w => by simp [execOp, hf.eval hu, unX_run hv]⟩
    · cases hx
  case makeFunc fn first caps =>
    split at hx
    · rename_i f u c hu hc
      cases hx
      refine .inr ⟨_, rfl, fun w => ?_⟩
      simp only [execOp, Instr.makeFunc, evalL_toArray hf hu, evalL_toArray hf hc, SV.den, Sem.run_bind, Sem.run_pure, Result.andThen_ok]
    · cases hx
  case fieldAddr s x f =>
    split at hx
    · rename_i b off fs hv hs
      split at hx
      · rename_i g hg
        split at hx
        · rename_i n hn
          split at hx
          · rename_i h1
            simp only [Bool.and_eq_true] at h1
            have h0 := SI.nn_den hpc off h1.2
            have h1 := Nat.le_of_ble_eq_true h1.1
            cases hx
            refine .inr ⟨_, rfl, fun w => ?_⟩
            have hn0 : n ≠ 0 := by omega
            have e : (off.den ν).toNat + g.offset = (off.den ν + Int.ofNat g.offset).toNat := by
              have : Int.ofNat g.offset = (g.offset : Int) := rfl
              rw [this]; omega
            simp [execOp, hf.eval hv, SV.den, SI.den, SI.mkAdd_den, Instr.fieldAt, run_underlying hs, hg, Instr.sureAddr, fieldPlace, sizeT_run hn, hn0, add_none, e]
          · cases hx
        · cases hx
      · cases hx
    · cases hx
  case extract x i =>
    split at hx
    · rename_i l hl
      simp only [Option.map_eq_some_iff] at hx
      obtain ⟨v, hv, rfl⟩ := hx
      exact .inr ⟨v, rfl, fun w => by simp [execOp, hf.eval hl, SV.den, Instr.extract, denL_get, hv]⟩
    · cases hx

theorem ok_stepB (pr : PR P) (oo : OOK P O I) {n : Nat} (ih : ∀ m, m < n → AllOK P O I m) {lo sz f it rid : Nat} {ops : Array Oper} {j : Nat} {ls ls' : List Leaf} (h : stepX0 P O lo sz f n it rid ops j ls = some ls') (B : Base) (ν0 : Env G) (ρ0 : Nat → Nat) (Q : Exit → Act → World → Prop) (K : Act → World → Prop) (hI : ν0.I = I) (hQ : NP Q) {b0 b1 : Nat} (hb0 : Nat.ble b0 (lo + (it * 2 ^ 20 + rid * 256 + j) * (sz / K0)) = true) (hb1 : Nat.ble (lo + (it * 2 ^ 20 + rid * 256 + j) * (sz / K0) + sz / K0) (lo + sz) = true → Nat.ble (lo + (it * 2 ^ 20 + rid * 256 + j) * (sz / K0) + sz / K0) b1 = true)
    (hl : ∀ L ∈ ls', ∀ a w, SatL b0 b1 ν0 ρ0 B L a w → RQ K Q L.ex a w) : ∀ L ∈ ls, ∀ a w, SatL b0 b1 ν0 ρ0 B L a w → RQ (wpOp P ops Q j K) Q L.ex a w := by
  cases n with
  | zero => simp [stepX0] at h
  | succ n =>
    unfold stepX0 at h
    split at h
    · cases h
    · rename_i o ho
      intro L hL a w hs
      obtain ⟨l1, h1, hsub⟩ := bindL_mem h L hL
      obtain ⟨ex, fr, pc, hp⟩ := L
      cases ex with
      | exit i => simp only [Option.some.injEq] at h1; subst h1; exact hl _ (hsub _ (by simp)) a w hs
      | ret => simp only [Option.some.injEq] at h1; subst h1; exact hl _ (hsub _ (by simp)) a w hs
      | bad => simp only [Option.some.injEq] at h1; subst h1; exact hl _ (hsub _ (by simp)) a w hs
      | normal =>
        simp only at h1
        obtain ⟨ν, ρ, hag, hpc, hfw⟩ := hs
        obtain ⟨hf, hw⟩ := hfw trivial
        show wpOp P ops Q j K a w
        unfold wpOp
        simp only [ho]
        unfold bindO at h1
        split at h1
        · cases h1
        · rename_i ws hws
          obtain ⟨x, hx, hxp, hwant⟩ := wantX_sound hws hf hpc
          obtain ⟨l2, h2, hsub2⟩ := bindL_mem h1 x hx
          skip
          have hpc2 : pcDen ν (x.1 ++ pc) := pcDen_append hxp hpc
          cases hb : x.2 with
          | false =>
            rw [hb] at h2 hwant
            simp only [Bool.false_eq_true, if_false, Option.some.injEq] at h2
            subst h2
            rw [hwant]
            simp only [Bool.false_eq_true, if_false]
            exact hl ⟨.normal, fput fr o.dst (.tup []), x.1 ++ pc, hp⟩ (hsub _ (hsub2 _ (by simp))) _ w ⟨ν, ρ, hag, hpc2, fun _ => ⟨hf.put o.dst (.tup []), hw⟩⟩
          | true =>
            rw [hb] at h2 hwant
            rw [hwant]
            simp only [if_true] at h2 ⊢
            left
            generalize hnm : lo + (it * 2 ^ 20 + rid * 256 + j) * (sz / K0) = nm at h2 hb0 hb1
            generalize hsb : sz / K0 = sub at h2 hb1
            split at h2
            · rename_i hint
              simp only [Bool.and_eq_true] at hint
              have i1 : Nat.ble b0 nm = true := hb0
              have i2 := hb1 hint.1
              have i3 : Nat.ble (nm + 1) b1 = true := Nat.ble_eq_true_of_le (by have := Nat.le_of_ble_eq_true i2; have := Nat.le_of_ble_eq_true hint.2; omega)
              split at h2
              · cases h2
              · rename_i outs houts
                obtain ⟨r, hr, ν', ρ', hag', hmk, hpr, hout⟩ := opO_sound pr oo (hag.I.trans hI) houts hf hpc2 hw
                obtain ⟨l3, h3, hsub3⟩ := bindL_mem h2 r hr
                have hag1 : Agree b0 b1 ν0 ν' ρ0 ρ' := hag.trans (hag'.mono i1 i3)
                obtain ⟨rp, ro⟩ := r
                simp only at hpr hout h3
                cases ro with
                | fail => cases h3
                | val v hp' =>
                  simp only at h3 hout
                  obtain ⟨w', hrun, hw'⟩ := hout
                  have fin : FR ν' ρ' fr a → pcDen ν' (rp ++ (x.1 ++ pc)) → [(⟨.normal, fput fr o.dst v, rp ++ (x.1 ++ pc), hp'⟩ : Leaf)] = l3 → o.wp P a w K Q := by
                    intro hf' hpc' hl3
                    unfold Oper.wp
                    rw [hrun, Oper.upon_value]
                    refine hl ⟨.normal, fput fr o.dst v, rp ++ (x.1 ++ pc), hp'⟩ (hsub _ (hsub2 _ (hsub3 _ (by rw [← hl3]; simp)))) _ w' ⟨ν', ρ', hag1, hpc', fun _ => ⟨hf'.put o.dst v, hw'⟩⟩
                  have hpr2 : pcDen ν (rp ++ (x.1 ++ pc)) := pcDen_append hpr hpc2
                  split at h3
                  · split at h3
                    · rename_i hav2
                      simp only [Bool.and_eq_true] at hav2
                      refine fin (hf.agree hag' hav2.1) (pcDen_agree hag' hav2.2 hpr2) (Option.some.inj h3)
                    · cases h3
                  · rename_i hnm
                    obtain ⟨rfl, rfl⟩ := hmk (by simpa using hnm)
                    exact fin hf hpr2 (Option.some.inj h3)
                | skip hp' =>
                  simp only at h3 hout
                  split at h3
                  · cases h3
                  · rename_i hnm
                    obtain ⟨rfl, rfl⟩ := hmk (by simpa using hnm)
                    obtain ⟨w', hrun, hw'⟩ := hout
                    unfold Oper.wp
                    rw [hrun, Oper.upon_skip]
                    refine hl ⟨.normal, fput fr o.dst (.tup []), rp ++ (x.1 ++ pc), hp'⟩ (hsub _ (hsub2 _ (hsub3 _ (by rw [← Option.some.inj h3]; simp)))) _ w' ⟨ν', ρ', hag1, pcDen_append hpr hpc2, fun _ => ⟨hf.put o.dst (.tup []), hw'⟩⟩
                | bad =>
                  simp only at h3
                  have hpr2 : pcDen ν (rp ++ (x.1 ++ pc)) := pcDen_append hpr hpc2
                  have fin : [(⟨.bad, [], rp ++ (x.1 ++ pc), []⟩ : Leaf)] = l3 → o.wp P a w K Q := by
                    intro hl3
                    exact (hl ⟨.bad, [], rp ++ (x.1 ++ pc), []⟩ (hsub _ (hsub2 _ (hsub3 _ (by rw [← hl3]; simp)))) a w ⟨ν, ρ, hag, hpr2, fun h => h.elim⟩).elim
                  split at h3
                  · split at h3
                    · exact fin (Option.some.inj h3)
                    · cases h3
                  · exact fin (Option.some.inj h3)
                | call g args =>
                  simp only at h3 hout
                  split at h3
                  · cases h3
                  · rename_i hnm
                    obtain ⟨rfl, rfl⟩ := hmk (by simpa using hnm)
                    obtain ⟨hrun, hw'⟩ := hout
                    split at h3
                    · rename_i hav2
                      split at h3
                      · cases h3
                      · rename_i cs hcs
                        have hc := (ih n (by omega)).call hcs B ν' ρ' w
                        unfold Oper.wp
                        rw [hrun, Oper.upon_enter]
                        refine hc _ (hag1.I.trans hI) (pcDen_append hpr hpc2) hw' ?_
                        intro c hcm ν2 ρ2 w2 hag2 hpc3
                        have hag3 : Agree b0 b1 ν0 ν2 ρ0 ρ2 := hag1.trans (hag2.mono i1 i2)
                        have hmem := hsub _ (hsub2 _ (hsub3 (if c.bad then ⟨.bad, [], c.pc, []⟩ else ⟨.normal, fput fr o.dst c.v, c.pc, c.hp⟩ : Leaf) (by rw [← Option.some.inj h3]; exact List.mem_map.2 ⟨c, hcm, rfl⟩)))
                        cases hcb : c.bad with
                        | true =>
                          rw [hcb] at hmem
                          exact (hl _ hmem a w ⟨ν2, ρ2, hag3, hpc3, fun h => h.elim⟩).elim
                        | false =>
                          rw [hcb] at hmem
                          refine ⟨rfl, fun hw2 => ?_⟩
                          have hf2 : FR ν2 ρ2 fr a := hf.agree hag2 hav2
                          exact hl _ hmem _ w2 ⟨ν2, ρ2, hag3, hpc3, fun _ => ⟨hf2.put o.dst c.v, hw2⟩⟩
                    · cases h3
            · cases h2
theorem ok_step (pr : PR P) (oo : OOK P O I) {n : Nat} (ih : ∀ m, m < n → AllOK P O I m) {lo sz f it rid : Nat} {ops : Array Oper} {j : Nat} {ls ls' : List Leaf} (h : stepX0 P O lo sz f n it rid ops j ls = some ls') (B : Base) (ν0 : Env G) (ρ0 : Nat → Nat) (Q : Exit → Act → World → Prop) (K : Act → World → Prop) (hI : ν0.I = I) (hQ : NP Q)
    (hl : ∀ L ∈ ls', ∀ a w, SatL lo (lo + sz) ν0 ρ0 B L a w → RQ K Q L.ex a w) : ∀ L ∈ ls, ∀ a w, SatL lo (lo + sz) ν0 ρ0 B L a w → RQ (wpOp P ops Q j K) Q L.ex a w :=
  ok_stepB pr oo ih h B ν0 ρ0 Q K hI hQ (Nat.ble_eq_true_of_le (by omega)) id hl
end
end Go.Sy
end

section
namespace Go.Sy
open Go

section
variable {P : Program} {G : Type} {O : Orac} {I : In G}
theorem kUpon_of_wp {C : World → Prop} {o : Oper} {a : Act} {w : World} {v : Value} {K : Act → World → Prop} (h : o.wp P a w K (fun _ _ _ => False)) (hK : ∀ u w', K (a.put o.dst u) w' → u = v ∧ C w') (hdef : ∀ x w', K (({ a with defers := x :: a.defers } : Act).put o.dst undef) w' → False) : kUpon P C v ((execOp a.eval o).run P w) := by
  have hlet : LetsOut (fun _ _ _ => False) → False := fun ⟨_, _, h⟩ => h
  unfold Oper.wp at h
  generalize (execOp a.eval o).run P w = r at *
  cases r with
  | ok n w' =>
    cases n <;> simp only [Oper.upon] at h <;> simp only [kUpon]
    case value u => exact hK u w' h
    case skip => exact ⟨(hK undef w' h).1.symm, (hK undef w' h).2⟩
    case defer x => exact hdef x w' h
    case enter f args =>
      refine Calls.mono h fun e w'' he => ?_
      cases e with
      | returned u => exact ⟨by rw [(hK u w'' he).1], (hK u w'' he).2⟩
      | panicked c => exact he.elim
      | outgrown => exact (hlet he).elim
    case row row args => exact Rows.mono h fun u w'' he => hK u w'' he
  | halt x w' => cases x <;> simp only [Oper.upon] at h

theorem subL_sub : ∀ {h0 hp : Heap}, subL h0 hp = true → h0.Sublist hp
  | [], _, _ => List.nil_sublist _
  | _ :: _, [], h => by simp [subL] at h
  | (n, b) :: r, (m, c) :: s, h => by
    unfold subL at h
    split at h
    · rename_i hn
      split at h
      · rename_i hb
        have e1 := Nat.eq_of_beq_eq_true hn
        have e2 := SBk.beq_eq hb
        subst e1 e2
        exact (subL_sub h).cons_cons _
      · cases h
    · exact (subL_sub h).cons _

theorem HW.subl {B : Base} {ν : Env G} {ρ : Nat → Nat} {hp hq : Heap} {w : World} (h : HW B ν ρ hp w) (hs : hq.Sublist hp) : HW B ν ρ hq w := by
  obtain ⟨F, h1, h2, h3⟩ := h.foot
  exact ⟨h.os, h.tape, h.output, h.size, h.kept, (hs.map _).nodup h.nd, F, fun n b hm => h1 n b (hs.subset hm), fun n b k hm => h2 n b k (hs.subset hm), fun n b m c k hm hm' => h3 n b m c k (hs.subset hm) (hs.subset hm')⟩
theorem HW.back_agree {B : Base} {lo hi : Nat} {ν ν' : Env G} {ρ ρ' : Nat → Nat} {hp : Heap} {w : World} (hag : Agree lo hi ν ν' ρ ρ') (hv : hav lo hi hp = true) (h : HW B ν' ρ' hp w) : HW B ν ρ hp w := by
  have hs : Agree lo hi ν' ν ρ' ρ := ⟨hag.I.symm, fun n hn => (hag.g n hn).symm, fun n hn => (hag.i n hn).symm, fun n hn => (hag.b n hn).symm, fun n hn => (hag.v n hn).symm, fun n hn => (hag.l n hn).symm, fun n hn => (hag.e n hn).symm, fun n hn => (hag.r n hn).symm⟩
  obtain ⟨F, h1, h2, h3⟩ := h.foot
  exact ⟨h.os, h.tape, h.output, h.size, h.kept, h.nd, F, fun n b hm => BlkDen.agree hs (hav_mem hv n b hm).2 (hav_mem hv n b hm).1 (h1 n b hm), h2, h3⟩

theorem head_ok (pr : PR P) (oo : OOK P O I) {n : Nat} (ih : ∀ m, m < n → AllOK P O I m) {lo sz f it rid b0 b1 : Nat} {ops : Array Oper} {h0 : Heap} {pc : PC} (e0 : b0 = lo + (it * 2 ^ 20 + rid * 256) * (sz / K0)) (e1 : b1 = b0 + 256 * (sz / K0)) (hh : hav b0 b1 h0 = true)
    {B : Base} {ν : Env G} {ρ : Nat → Nat} (hI : ν.I = I) (hpc : pcDen ν pc) {Lq : Act → Prop} {fr' : List SV} (hLq : ∀ a', FR ν ρ fr' a' → Lq a') :
    ∀ (m j : Nat) (fr : List SV) (a : Act), j + m ≤ 256 → headK P (opX P 0) (stepX0 P O lo sz f n it rid ops) b0 b1 h0 pc ops m j fr = some fr' → FR ν ρ fr a → wpK P ops (fun w => HW B ν ρ h0 w) Lq m j a
  | 0, j, fr, a, _, h, hf => by simp only [headK, Option.some.injEq] at h; subst h; exact hLq a hf
  | m + 1, j, fr, a, hj, h, hf => by
    unfold headK at h
    split at h
    · cases h
    rename_i o ho
    split at h
    · cases h
    rename_i hg
    split at h
    · cases h
    rename_i v hv
    show kOp P ops _ j _ a
    unfold kOp
    simp only [ho]
    refine ⟨v.den ν ρ, .inl ⟨by simp [Region.wanted, hg], fun w hC => ?_⟩, head_ok pr oo ih e0 e1 hh hI hpc hLq m (j + 1) _ _ (by omega) h (hf.put o.dst v)⟩
    unfold valK at hv
    split at hv
    · rename_i hp
      split at hv
      · rename_i u x hx
        cases hv
        rcases pure_yields hx hp hf hpc with h1 | ⟨v', h1, h2⟩
        · simp at h1
        · simp only [List.cons.injEq, Prod.mk.injEq, ORes.val.injEq, and_true, true_and] at h1
          obtain ⟨rfl, -⟩ := h1
          rw [h2 w]
          exact ⟨rfl, hC⟩
      · cases hv
    · split at hv
      · rename_i u hl
        cases hv
        unfold loadK at hl
        split at hl
        case h_2 => cases hl
        rename_i t x hop
        split at hl
        case h_2 => cases hl
        rename_i b off hx
        split at hl
        case h_2 => cases hl
        split at hl
        case h_2 => cases hl
        rename_i v' hlx
        cases hl
        obtain ⟨y, hy, _, hy2⟩ := loadX_run (t := t) (p := .ptr b off) hC hpc hlx
        simp only [List.mem_singleton] at hy
        subst hy
        have h3 := hy2 _ rfl
        have : (execOp a.eval o).run P w = .ok (.value (v.den ν ρ)) w := by
          simp only [execOp, hop, hf.eval hx]
          simp [h3]
        rw [this]
        exact ⟨rfl, hC⟩
      · unfold valS at hv
        split at hv
        · cases hv
        rename_i d hd
        split at hv
        case h_2 => cases hv
        rename_i fr2 pc2 hp2 hst
        split at hv
        case h_2 => cases hv
        rename_i v' hv'
        split at hv
        case isFalse => cases hv
        rename_i hc
        cases hv
        simp only [Bool.and_eq_true, Bool.not_eq_true'] at hc
        obtain ⟨⟨hav, hnd⟩, hsb⟩ := hc
        have hstep := ok_stepB pr oo ih hst B ν ρ (fun _ _ _ => False) (fun a' w' => SatL b0 b1 ν ρ B ⟨.normal, fr2, pc2, hp2⟩ a' w') hI (fun _ _ _ h => h.elim) (b0 := b0) (b1 := b1)
          (by
            refine Nat.ble_eq_true_of_le ?_
            rw [e0]
            have : (it * 2 ^ 20 + rid * 256) * (sz / K0) ≤ (it * 2 ^ 20 + rid * 256 + j) * (sz / K0) := Nat.mul_le_mul_right _ (by omega)
            omega)
          (fun _ => by
            refine Nat.ble_eq_true_of_le ?_
            rw [e1, e0]
            have h1 : (it * 2 ^ 20 + rid * 256 + j) * (sz / K0) + sz / K0 = (it * 2 ^ 20 + rid * 256 + j + 1) * (sz / K0) := by rw [Nat.add_mul _ 1, Nat.one_mul]
            have h2 : (it * 2 ^ 20 + rid * 256 + j + 1) * (sz / K0) ≤ (it * 2 ^ 20 + rid * 256 + 256) * (sz / K0) := Nat.mul_le_mul_right _ (by omega)
            have h3 : (it * 2 ^ 20 + rid * 256 + 256) * (sz / K0) = (it * 2 ^ 20 + rid * 256) * (sz / K0) + 256 * (sz / K0) := Nat.add_mul ..
            omega)
          (fun L hL a' w' hs => by simp only [List.mem_singleton] at hL; subst hL; exact hs) ⟨.normal, fr, pc, h0⟩ (by simp) a w ⟨ν, ρ, Agree.refl _ _ _ _, hpc, fun _ => ⟨hf, hC⟩⟩
        have hwp : wpOp P ops (fun _ _ _ => False) j (fun a' w' => SatL b0 b1 ν ρ B ⟨.normal, fr2, pc2, hp2⟩ a' w') a w := hstep
        unfold wpOp at hwp
        simp only [ho] at hwp
        rw [show Region.wanted o (yielded ops a.tmps) = true by simp [Region.wanted, hg]] at hwp
        simp only [if_true] at hwp
        rcases hwp with hwp | ⟨_, _, _, hf0⟩
        case inr => exact hf0.elim
        refine kUpon_of_wp hwp (fun u w' hs => ?_) (fun x w' hs => ?_)
        · obtain ⟨ν2, ρ2, hag, _, hfw⟩ := hs
          obtain ⟨hf2, hw2⟩ := hfw trivial
          have h5 := hf2.tmps d v hv' hnd
          simp only [Act.put, hd] at h5
          have hlt : d < a.tmps.size := by
            have := (Array.getElem?_eq_some_iff.1 h5).1
            simpa using this
          rw [Array.getElem?_setIfInBounds_self_of_lt hlt] at h5
          refine ⟨?_, HW.back_agree hag hh (hw2.subl (subL_sub hsb))⟩
          rw [Option.some.inj h5, SV.den_agree hag v hav]
        · obtain ⟨ν2, ρ2, hag, _, hfw⟩ := hs
          have := (hfw trivial).1.defers
          simp [Act.put, hd] at this

theorem order_ok (pr : PR P) (oo : OOK P O I) {n : Nat} (ih : ∀ m, m < n → AllOK P O I m) {lo sz f it rid b0 b1 : Nat} {ops : Array Oper} {h0 : Heap} (hsz : ops.size ≤ 256) (e0 : b0 = lo + (it * 2 ^ 20 + rid * 256) * (sz / K0)) (e1 : b1 = b0 + 256 * (sz / K0)) (hh : hav b0 b1 h0 = true)
    {B : Base} {ν : Env G} {ρ : Nat → Nat} (hI : ν.I = I) {Q : Exit → Act → World → Prop} (hQ : NP Q) {out : List Leaf} (hl : ∀ L ∈ out, ∀ a w, SatL b0 b1 ν ρ B L a w → LQ Q L.ex a w) :
    ∀ (l : OT) (fr : List SV) (pc : PC) (hp : Heap) (a : Act) (w : World), ordK P (opX P 0) (stepX0 P O lo sz f n it rid ops) h0 ops l fr pc hp = some out → SatL b0 b1 ν ρ B ⟨.normal, fr, pc, hp⟩ a w → HW B ν ρ h0 w → wpO P ops Q (fun w => HW B ν ρ h0 w) l a w
  | .done, fr, pc, hp, a, w, h, hs, _ => by
    simp only [ordK, Option.some.injEq] at h
    subst h
    exact hl _ (by simp) a w hs
  | .stop, fr, pc, hp, a, w, h, hs, _ => trivial
  | .first i r, fr, pc, hp, a, w, h, hs, hS => by
    unfold ordK at h
    unfold wpO
    split at h
    case h_2 => cases h
    rename_i hf
    split at h
    · cases h
    rename_i o ho
    obtain ⟨ν2, ρ2, hag, hpc, hfw⟩ := hs
    obtain ⟨hfr, hw⟩ := hfw trivial
    split at h
    case h_3 => cases h
    case h_2 =>
      rename_i hwx
      obtain ⟨x, hx, -, hwant⟩ := wantX_sound hwx hfr hpc
      simp only [List.mem_singleton] at hx
      subst hx
      exact ⟨o, undef, ho, .inr ⟨hwant, rfl⟩, hS, order_ok pr oo ih hsz e0 e1 hh hI hQ hl r _ _ _ _ w h ⟨ν2, ρ2, hag, hpc, fun _ => ⟨hfr.put o.dst (.tup []), hw⟩⟩ hS⟩
    rename_i hwx
    obtain ⟨x, hx, -, hwant⟩ := wantX_sound hwx hfr hpc
    simp only [List.mem_singleton] at hx
    subst hx
    split at h
    · cases h
    rename_i v hv
    refine ⟨o, v.den ν2 ρ2, ho, .inl ⟨hwant, fun w2 hC => ?_⟩, hS, order_ok pr oo ih hsz e0 e1 hh hI hQ hl r _ _ _ _ w h ⟨ν2, ρ2, hag, hpc, fun _ => ⟨hfr.put o.dst v, hw⟩⟩ hS⟩
    have hC2 : HW B ν2 ρ2 h0 w2 := by
      have hs2 : Agree b0 b1 ν2 ν ρ2 ρ := ⟨hag.I.symm, fun n hn => (hag.g n hn).symm, fun n hn => (hag.i n hn).symm, fun n hn => (hag.b n hn).symm, fun n hn => (hag.v n hn).symm, fun n hn => (hag.l n hn).symm, fun n hn => (hag.e n hn).symm, fun n hn => (hag.r n hn).symm⟩
      exact HW.back_agree hs2 hh hC
    unfold firstV at hv
    split at hv
    · rename_i hp'
      split at hv
      · rename_i u x hx
        cases hv
        rcases pure_yields hx hp' hfr hpc with h1 | ⟨v', h1, h2⟩
        · simp at h1
        · simp only [List.cons.injEq, Prod.mk.injEq, ORes.val.injEq, and_true, true_and] at h1
          obtain ⟨rfl, -⟩ := h1
          exact h2 w2
      · cases hv
    · unfold loadK at hv
      split at hv
      case h_2 => cases hv
      rename_i t x hop
      split at hv
      case h_2 => cases hv
      rename_i b off hx
      split at hv
      case h_2 => cases hv
      split at hv
      case h_2 => cases hv
      rename_i v' hlx
      cases hv
      obtain ⟨y, hy, _, hy2⟩ := loadX_run (t := t) (p := .ptr b off) hC2 hpc hlx
      simp only [List.mem_singleton] at hy
      subst hy
      have h3 := hy2 _ rfl
      simp only [execOp, hop, hfr.eval hx]
      simp [h3]
  | .alt i r s, fr, pc, hp, a, w, h, hs, hS => by
    unfold ordK at h
    unfold wpO
    split at h
    · cases h
    rename_i ls hst
    have hboth : nextK (ordK P (opX P 0) (stepX0 P O lo sz f n it rid ops) h0 ops r) h0 r.isDone ls = some out ∧ (s.isStop = true ∨ ordK P (opX P 0) (stepX0 P O lo sz f n it rid ops) h0 ops s fr pc hp = some out) := by
      unfold joinK at h
      split at h
      · rename_i hs1; exact ⟨h, .inl hs1⟩
      · split at h
        · cases h
        · rename_i x hx
          unfold sameR at h
          split at h
          · cases h
          rename_i y hy
          split at h
          case h_2 => cases h
          rename_i hb
          cases h
          have := leafsB_eq hb
          subst this
          exact ⟨hx, .inr hy⟩
    obtain ⟨h, hrest⟩ := hboth
    refine ⟨?_, ?_⟩
    case refine_2 =>
      rcases hrest with h1 | h1
      · cases s with
        | stop => trivial
        | done => cases h1
        | first _ _ => cases h1
        | alt _ _ _ => cases h1
      · exact order_ok pr oo ih hsz e0 e1 hh hI hQ hl s fr pc hp a w h1 hs hS
    by_cases hi : i < ops.size
    case neg =>
      exfalso
      have hno : ops[i]? = none := Array.getElem?_eq_none (by omega)
      cases n with
      | zero => simp [stepX0] at hst
      | succ n => unfold stepX0 at hst; rw [hno] at hst; cases hst
    obtain ⟨ν2, ρ2, hag, hpc, hfw⟩ := hs
    have hb0 : Nat.ble b0 (lo + (it * 2 ^ 20 + rid * 256 + i) * (sz / K0)) = true := by
      refine Nat.ble_eq_true_of_le ?_
      rw [e0]
      have : (it * 2 ^ 20 + rid * 256) * (sz / K0) ≤ (it * 2 ^ 20 + rid * 256 + i) * (sz / K0) := Nat.mul_le_mul_right _ (by omega)
      omega
    have hb1 : Nat.ble (lo + (it * 2 ^ 20 + rid * 256 + i) * (sz / K0) + sz / K0) b1 = true := by
      refine Nat.ble_eq_true_of_le ?_
      rw [e1, e0]
      have h1 : (it * 2 ^ 20 + rid * 256 + i) * (sz / K0) + sz / K0 = (it * 2 ^ 20 + rid * 256 + i + 1) * (sz / K0) := by rw [Nat.add_mul _ 1, Nat.one_mul]
      have h2 : (it * 2 ^ 20 + rid * 256 + i + 1) * (sz / K0) ≤ (it * 2 ^ 20 + rid * 256 + 256) * (sz / K0) := Nat.mul_le_mul_right _ (by omega)
      have h3 : (it * 2 ^ 20 + rid * 256 + 256) * (sz / K0) = (it * 2 ^ 20 + rid * 256) * (sz / K0) + 256 * (sz / K0) := Nat.add_mul ..
      omega
    have keep : ∀ {L : Leaf} {a' : Act} {w' : World}, SatL b0 b1 ν2 ρ2 B L a' w' → SatL b0 b1 ν ρ B L a' w' := fun ⟨ν3, ρ3, g1, g2, g3⟩ => ⟨ν3, ρ3, hag.trans g1, g2, g3⟩
    have hSof : ∀ {hp' : Heap} {fr' : List SV} {pc' : PC} {a' : Act} {w' : World}, subL h0 hp' = true → SatL b0 b1 ν ρ B ⟨.normal, fr', pc', hp'⟩ a' w' → HW B ν ρ h0 w' := fun hsb ⟨ν3, ρ3, g1, g2, g3⟩ => HW.back_agree g1 hh ((g3 trivial).2.subl (subL_sub hsb))
    exact ok_stepB pr oo ih hst B ν2 ρ2 Q (fun a' w' => HW B ν ρ h0 w' ∧ wpO P ops Q (fun w => HW B ν ρ h0 w) r a' w') (hag.I.trans hI) hQ (b0 := b0) (b1 := b1) hb0 (fun _ => hb1)
      (fun L hL a' w' hs' => by
        cases hd : r.isDone with
        | true =>
          have hrd : r = .done := by cases r <;> first | rfl | cases hd
          subst hrd
          rw [hd] at h
          unfold nextK at h
          simp only at h
          split at h
          case isFalse => cases h
          rename_i hall
          cases h
          have hok := List.all_eq_true.1 hall L hL
          have hq := hl L hL a' w' (keep hs')
          obtain ⟨ex, fr', pc', hp'⟩ := L
          cases ex with
          | normal => exact ⟨hSof hok (keep hs'), hq⟩
          | bad => exact hq
          | exit j => cases hok
          | ret => cases hok
        | false =>
          rw [hd] at h
          unfold nextK at h
          simp only at h
          split at h
          case h_2 => cases h
          rename_i fr' pc' hp'
          split at h
          case isFalse => cases h
          rename_i hsb
          simp only [List.mem_singleton] at hL
          subst hL
          exact ⟨hSof hsb (keep hs'), order_ok pr oo ih hsz e0 e1 hh hI hQ hl r _ _ _ _ _ h (keep hs') (hSof hsb (keep hs'))⟩)
      ⟨.normal, fr, pc, hp⟩ (by simp) a w ⟨ν2, ρ2, Agree.refl _ _ _ _, hpc, hfw⟩
end
end Go.Sy
end

section
namespace Go.Sy
open Go

section
variable {P : Program} {G : Type} {O : Orac} {I : In G}

theorem partOf_seqL {f : Nat} {a b : Code} (h : PartOf P f (.seq a b)) : PartOf P f a := by obtain ⟨fn, body, h1, h2, h3⟩ := h; exact ⟨fn, body, h1, h2, .seqL h3⟩
theorem partOf_seqR {f : Nat} {a b : Code} (h : PartOf P f (.seq a b)) : PartOf P f b := by obtain ⟨fn, body, h1, h2, h3⟩ := h; exact ⟨fn, body, h1, h2, .seqR h3⟩
theorem partOf_block {f i : Nat} {a : Code} (h : PartOf P f (.block i a)) : PartOf P f a := by obtain ⟨fn, body, h1, h2, h3⟩ := h; exact ⟨fn, body, h1, h2, .block h3⟩
theorem partOf_loop {f : Nat} {a : Code} (h : PartOf P f (.loop a)) : PartOf P f a := by obtain ⟨fn, body, h1, h2, h3⟩ := h; exact ⟨fn, body, h1, h2, .loop h3⟩
theorem partOf_condL {f : Nat} {x : Operand} {a b : Code} (h : PartOf P f (.cond x a b)) : PartOf P f a := by obtain ⟨fn, body, h1, h2, h3⟩ := h; exact ⟨fn, body, h1, h2, .condL h3⟩
theorem partOf_condR {f : Nat} {x : Operand} {a b : Code} (h : PartOf P f (.cond x a b)) : PartOf P f b := by obtain ⟨fn, body, h1, h2, h3⟩ := h; exact ⟨fn, body, h1, h2, .condR h3⟩

theorem pure_makes {op : Op} (h : pureOp op = true) : makes op = false := by
  cases op <;> simp [pureOp] at h <;> rfl

theorem step_pure {n lo sz f it rid : Nat} {ops : Array Oper} {i : Nat} {t t' : List Leaf} (h : stepX0 P O lo sz f n it rid ops i t = some t') {o : Oper} (ho : ops[i]? = some o) (hp : pureOp o.op = true) (hg : o.guard = none)
    {B : Base} {ν0 : Env G} {ρ0 : Nat → Nat} {L : Leaf} (hL : L ∈ t) (hn : L.ex = .normal) {a : Act} {w : World} (hs : SatL lo (lo + sz) ν0 ρ0 B L a w) :
    (∃ L' ∈ t', L'.ex = .bad ∧ SatL lo (lo + sz) ν0 ρ0 B L' a w) ∨ ∃ v, Yields P ops o v a ∧ ∃ L' ∈ t', L'.ex = .normal ∧ SatL lo (lo + sz) ν0 ρ0 B L' (a.put o.dst v) w := by
  cases n with
  | zero => simp [stepX0] at h
  | succ n =>
    unfold stepX0 at h
    simp only [ho] at h
    obtain ⟨l1, h1, hsub⟩ := bindL_mem h L hL
    obtain ⟨ex, fr, pc, hp'⟩ := L
    simp only at hn
    subst hn
    obtain ⟨ν, ρ, hag, hpc, hfw⟩ := hs
    obtain ⟨hf, hw⟩ := hfw trivial
    have hwx : wantX ops fr pc o = some [([], true)] := by simp [wantX, hg]
    simp only [hwx, bindO, bindL, if_true, List.nil_append] at h1
    have hmk := pure_makes hp
    generalize hsb : sz / K0 = sub at h1
    generalize hnm : lo + (it * 2 ^ 20 + rid * 256 + i) * sub = nm at h1
    split at h1
    · rename_i a1 b1 ha1 hb1
      simp only [Option.some.injEq] at hb1
      subst hb1
      simp only [List.append_nil, Option.some.injEq] at h1
      subst h1
      split at ha1
      · split at ha1
        · cases ha1
        · rename_i outs houts
          have hwant : Region.wanted o (yielded ops a.tmps) = true := by simp [Region.wanted, hg]
          rw [opO_pure hp] at houts
          rcases pure_yields houts hp hf hpc with rfl | ⟨v, rfl, hrun⟩
          · left
            simp only [bindL, hmk, Bool.false_eq_true, if_false] at ha1
            simp only [List.append_nil, Option.some.injEq] at ha1
            subst ha1
            exact ⟨⟨.bad, [], pc, []⟩, hsub _ (by simp), rfl, ν, ρ, hag, hpc, fun h => h.elim⟩
          · right
            simp only [bindL, hmk, Bool.false_eq_true, if_false] at ha1
            simp only [List.append_nil, Option.some.injEq] at ha1
            subst ha1
            exact ⟨v.den ν ρ, .inl ⟨hwant, hrun⟩, ⟨.normal, fput fr o.dst v, pc, hp'⟩, hsub _ (by simp), rfl, ν, ρ, hag, hpc, fun _ => ⟨hf.put o.dst v, hw⟩⟩
      · cases ha1
    · cases h1

theorem set_toArray (l : List Bool) (i : Nat) : (l.set i true).toArray = l.toArray.setIfInBounds i true := by
  simp

theorem covHyp {K : List Bool → Act → World → Prop} {Q : Exit → Act → World → Prop} {lo hi : Nat} {B : Base} {ν0 : Env G} {ρ0 : Nat → Nat} {G' : Front} (hyp : ∀ l ls, (l, ls) ∈ G' → ∀ L ∈ ls, ∀ a w, SatL lo hi ν0 ρ0 B L a w → RQ (K l) Q L.ex a w) {l : List Bool} {t : List Leaf} (h : CovF (l, t) G') :
    ∀ L ∈ t, ∀ a w, SatL lo hi ν0 ρ0 B L a w → RQ (K l) Q L.ex a w := by
  intro L hL a w hs
  obtain ⟨u, hu, hc⟩ := h
  obtain ⟨M, hM, c⟩ := hc L hL
  have := hyp _ _ hu M hM a w (c.sat hs)
  rw [c.ex]; exact this

theorem ok_level {n : Nat} (ih : ∀ m, m < n → AllOK P O I m) : ∀ {lo sz f it rid : Nat} {ops : Array Oper} {F G1 G' : Front}, levelX0 P O lo sz f n it rid ops F G1 = some G' → (∀ x ∈ G1, CovF x G') ∧ (Region.noSelect ops = true → ∀ (B : Base) (ν0 : Env G) (ρ0 : Nat → Nat) (Q : Exit → Act → World → Prop) (k : Nat), ν0.I = I → NP Q →
    (∀ l ls, (l, ls) ∈ G' → ∀ L ∈ ls, ∀ a w, SatL lo (lo + sz) ν0 ρ0 B L a w → RQ (wpAny P .any ops Q k l.toArray) Q L.ex a w) → ∀ l ls, (l, ls) ∈ F → ∀ L ∈ ls, ∀ a w, SatL lo (lo + sz) ν0 ρ0 B L a w → RQ (wpAny P .any ops Q (k + 1) l.toArray) Q L.ex a w) := by
  intro lo sz f it rid ops F G1 G' h
  cases n with
  | zero => simp [levelX0] at h
  | succ n =>
    unfold levelX0 at h
    cases F with
    | nil =>
      simp only [Option.some.injEq] at h
      subst h
      exact ⟨fun _ h => CovF.of_mem h, fun _ _ _ _ _ _ _ _ _ l ls hm => by cases hm⟩
    | cons x r =>
      obtain ⟨l, t⟩ := x
      simp only at h
      split at h
      · -- one that is pure
        rename_i i hi
        split at h
        · rename_i G2 hG1
          obtain ⟨s1, s2⟩ := (ih n (by omega)).side hG1
          obtain ⟨r1, r2⟩ := (ih n (by omega)).level h
          refine ⟨fun x hx => (s1 x hx).trans r1, fun hsel B ν0 ρ0 Q k hI hQ hyp l' ls' hm L hL a w hs => ?_⟩
          rcases List.mem_cons.1 hm with hm | hm
          · cases hm
            obtain ⟨m, t', hmn, hst, hmem⟩ := s2 i (by simp)
            have hst2 := (ih m (by omega)).step hst B ν0 ρ0 Q (wpAny P .any ops Q k (l.set i true).toArray) hI hQ (covHyp hyp (hmem.trans r1)) L hL a w hs
            have hsome := List.find?_some hi
            have hin := List.mem_of_find?_eq_some hi
            cases hex : L.ex with
            | exit j => rw [hex] at hst2; exact hst2
            | ret => rw [hex] at hst2; exact hst2
            | bad => rw [hex] at hst2; exact hst2
            | normal =>
              simp only [Bool.and_eq_true] at hsome
              obtain ⟨hpu, hfree⟩ := hsome
              cases ho : ops[i]? with
              | none => rw [ho] at hpu; cases hpu
              | some o =>
                rw [ho] at hpu
                simp only [Bool.and_eq_true, Option.isNone_iff_eq_none] at hpu
                show wpAny P .any ops Q (k + 1) l.toArray a w
                rcases step_pure hst ho hpu.1 hpu.2 hL hex hs with ⟨L', hL', hb, hs'⟩ | ⟨v, hy, L', hL', hn, hs'⟩
                · have := covHyp hyp (hmem.trans r1) L' hL' a w hs'
                  rw [hb] at this
                  exact this.elim
                · have h5 := covHyp hyp (hmem.trans r1) L' hL' _ w hs'
                  rw [hn] at h5
                  refine wpAny_take ho hsel hfree ?_ (fun c a w hq => (hQ _ _ _ hq).elim) hy ?_
                  · simpa [readyX] using hin
                  · rw [← set_toArray]; exact h5
          · exact r2 hsel B ν0 ρ0 Q k hI hQ hyp l' ls' hm L hL a w hs
        · cases h
      · -- all that may come up
        split at h
        · cases h
        · rename_i is hne
          split at h
          · rename_i G2 hG1
            obtain ⟨s1, s2⟩ := (ih n (by omega)).side hG1
            obtain ⟨r1, r2⟩ := (ih n (by omega)).level h
            refine ⟨fun x hx => (s1 x hx).trans r1, fun hsel B ν0 ρ0 Q k hI hQ hyp l' ls' hm L hL a w hs => ?_⟩
            rcases List.mem_cons.1 hm with hm | hm
            · cases hm
              have key : ∀ i ∈ readyX ops l, RQ (wpOp P ops Q i (wpAny P .any ops Q k (l.set i true).toArray)) Q L.ex a w := fun i hi => by
                obtain ⟨m, t', hmn, hst, hmem⟩ := s2 i hi
                exact (ih m (by omega)).step hst B ν0 ρ0 Q (wpAny P .any ops Q k (l.set i true).toArray) hI hQ (covHyp hyp (hmem.trans r1)) L hL a w hs
              have hnn : readyX ops l ≠ [] := fun e => hne e
              obtain ⟨i0, hi0⟩ := List.exists_mem_of_ne_nil _ hnn
              have k0 := key i0 hi0
              cases hex : L.ex with
              | exit j => rw [hex] at k0; exact k0
              | ret => rw [hex] at k0; exact k0
              | bad => rw [hex] at k0; exact k0
              | normal =>
                show wpAny P .any ops Q (k + 1) l.toArray a w
                refine ⟨fun h0 => absurd h0 hnn, fun i hi => ?_⟩
                have := key i hi
                rw [hex] at this
                rw [← set_toArray]
                exact this
            · exact r2 hsel B ν0 ρ0 Q k hI hQ hyp l' ls' hm L hL a w hs
          · cases h

theorem ok_draw {n : Nat} (ih : ∀ m, m < n → AllOK P O I m) {lo sz f it rid : Nat} {ops : Array Oper} {k : Nat} {F : Front} {t : List Leaf} (h : drawX0 P O lo sz f n it rid ops k F = some t) (hsel : Region.noSelect ops = true) (B : Base) (ν0 : Env G) (ρ0 : Nat → Nat) (Q : Exit → Act → World → Prop) (hI : ν0.I = I) (hQ : NP Q)
    (hl : ∀ L ∈ t, ∀ a w, SatL lo (lo + sz) ν0 ρ0 B L a w → LQ Q L.ex a w) : ∀ l ls, (l, ls) ∈ F → ∀ L ∈ ls, ∀ a w, SatL lo (lo + sz) ν0 ρ0 B L a w → RQ (wpAny P .any ops Q k l.toArray) Q L.ex a w := by
  cases n with
  | zero => simp [drawX0] at h
  | succ n =>
    unfold drawX0 at h
    cases k with
    | zero =>
      simp only at h
      split at h
      · rename_i l0 t0
        split at h
        · rename_i he
          cases h
          intro l ls hm L hL a w hs
          simp only [List.mem_singleton, Prod.mk.injEq] at hm
          obtain ⟨rfl, rfl⟩ := hm
          have := hl L hL a w hs
          cases hex : L.ex with
          | normal =>
            rw [hex] at this
            refine ⟨?_, this⟩
            simpa [readyX] using he
          | exit j => rw [hex] at this; exact this
          | ret => rw [hex] at this; exact this
          | bad => rw [hex] at this; exact this
        · cases h
      · cases h
    | succ k =>
      simp only at h
      split at h
      · rename_i G hG
        have h1 := (ih n (by omega)).draw h hsel B ν0 ρ0 Q hI hQ hl
        exact ((ih n (by omega)).level hG).2 hsel B ν0 ρ0 Q k hI hQ h1
      · cases h

theorem ok_call (oo : OOK P O I) {n : Nat} (ih : ∀ m, m < n → AllOK P O I m) {lo sz f : Nat} {args : List SV} {pc : PC} {hp : Heap} {cs : List CLeaf} (h : callX0 P O lo sz n f args pc hp = some cs) (B : Base) (ν : Env G) (ρ : Nat → Nat) (w : World) (R : Ending → World → Prop) (hI : ν.I = I) (hpc : pcDen ν pc) (hw : HW B ν ρ hp w)
    (hc : ∀ c ∈ cs, ∀ ν' ρ' w', Agree lo (lo + sz) ν ν' ρ ρ' → pcDen ν' c.pc → c.bad = false ∧ (HW B ν' ρ' c.hp w' → R (.returned (c.v.den ν' ρ')) w')) : Calls P f (denL ν ρ args).toArray w R := by
  cases n with
  | zero => simp [callX0] at h
  | succ n =>
    unfold callX0 at h
    split at h
    · rename_i r hor
      split at h
      · rename_i h64
        subst h
        exact oo.call hor sz (Nat.le_of_ble_eq_true h64) B ν ρ w R hI hpc hw hc
      · cases h
    split at h
    · cases h
    · rename_i fn hfn
      split at h
      · cases h
      · rename_i c hbody
        split at h
        · cases h
        · rename_i ls hls
          refine Calls.mono (R := fun e w' => match e with | .returned _ => R e w' | _ => False) ?_ (fun e w' he => by cases e <;> first | exact he | exact he.elim)
          refine calls_of_wp hfn hbody ?_
          refine (ih n (by omega)).code hls ⟨fn, c, hfn, hbody, .refl c⟩ B ν ρ _ hI (fun ch a w hq => hq.2.elim) ?_ _ w ⟨ν, ρ, Agree.refl _ _ _ _, hpc, fun _ => ⟨FR.of_eq ?_ rfl, hw⟩⟩
          · intro L hL a' w' hs
            obtain ⟨l1, h1, hsub⟩ := bindL_mem h L hL
            obtain ⟨ν', ρ', hag, hpc', hfw⟩ := hs
            have fin : NotBad L.ex → (match resX P L.fr L.hp fn.results.toList with | some vs => some [(⟨false, oneOr vs, L.pc, clean lo (lo + sz) (oneOr vs) L.hp⟩ : CLeaf)] | none => none) = some l1 →
                a'.defers = [] ∧ ∃ v, (results fn a'.tmps).run P w' = .ok v w' ∧ R (.returned v) w' := by
              intro hnb hl1
              obtain ⟨hf, hw'⟩ := hfw hnb
              split at hl1
              · rename_i vs hvs
                cases hl1
                refine ⟨hf.defers, _, results_sound hw' hf hvs, ?_⟩
                exact (hc ⟨false, oneOr vs, L.pc, clean lo (lo + sz) (oneOr vs) L.hp⟩ (hsub _ (by simp)) ν' ρ' w' hag hpc').2 hw'.sub
              · cases hl1
            cases hex : L.ex with
            | normal =>
              rw [hex] at h1 fin
              exact fin trivial h1
            | ret =>
              rw [hex] at h1 fin
              exact fin trivial h1
            | exit j => rw [hex] at h1; cases h1
            | bad =>
              rw [hex] at h1
              simp only [Option.some.injEq] at h1
              subst h1
              have := (hc ⟨true, .tup [], L.pc, []⟩ (hsub _ (by simp)) ν' ρ' w' hag hpc').1
              cases this
          · apply Array.ext'
            rw [denL_append]
            simp [denL_eq, undef_den]

theorem ok_code (pr : PR P) (oo : OOK P O I) {n : Nat} (ih : ∀ m, m < n → AllOK P O I m) {lo sz f it : Nat} {c : Code} {fr : List SV} {pc : PC} {hp : Heap} {ls : List Leaf} (h : codeX0 P O lo sz f n it c fr pc hp = some ls) (hp0 : PartOf P f c) (B : Base) (ν0 : Env G) (ρ0 : Nat → Nat) (Q : Exit → Act → World → Prop) (hI : ν0.I = I) (hQ : NP Q)
    (hl : ∀ L ∈ ls, ∀ a w, SatL lo (lo + sz) ν0 ρ0 B L a w → LQ Q L.ex a w) (a : Act) (w : World) (hs : SatL lo (lo + sz) ν0 ρ0 B ⟨.normal, fr, pc, hp⟩ a w) : c.wp P Q a w := by
  cases n with
  | zero => simp [codeX0] at h
  | succ n =>
    unfold codeX0 at h
    cases c <;> (try simp only at h)
    case skip =>
      cases h
      exact wp_skip (hl _ (by simp) a w hs)
    case ret =>
      cases h
      exact wp_ret (hl ⟨.ret, fr, pc, hp⟩ (by simp) a w hs)
    case exit id =>
      cases h
      exact wp_exit (hl ⟨.exit id, fr, pc, hp⟩ (by simp) a w hs)
    case seq x y =>
      split at h
      · rename_i l1 h1
        refine wp_seq ((ih n (by omega)).code h1 (partOf_seqL hp0) B ν0 ρ0 (Exit.then (Code.wp P y Q) Q) hI (fun ch a w hq => hQ ch a w hq) ?_ a w hs)
        intro L hL a' w' hs'
        obtain ⟨l2, h2, hsub⟩ := bindL_mem h L hL
        obtain ⟨ex, fr', pc', hp'⟩ := L
        cases ex with
        | normal => exact (ih n (by omega)).code h2 (partOf_seqR hp0) B ν0 ρ0 Q hI hQ (fun L' hL' => hl L' (hsub L' hL')) a' w' hs'
        | exit j => simp only [Option.some.injEq] at h2; subst h2; exact hl _ (hsub _ (by simp)) a' w' hs'
        | ret => simp only [Option.some.injEq] at h2; subst h2; exact hl _ (hsub _ (by simp)) a' w' hs'
        | bad => simp only [Option.some.injEq] at h2; subst h2; exact hl _ (hsub _ (by simp)) a' w' hs'
      · cases h
    case block id x =>
      split at h
      · rename_i l1 h1
        cases h
        refine wp_block ((ih n (by omega)).code h1 (partOf_block hp0) B ν0 ρ0 (Exit.inBlock id Q) hI (fun ch a w hq => hQ ch a w hq) ?_ a w hs)
        intro L hL a' w' hs'
        have := hl _ (List.mem_map.2 ⟨L, hL, rfl⟩) a' w'
        obtain ⟨ex, fr', pc', hp'⟩ := L
        cases ex with
        | normal => exact this hs'
        | exit j =>
          simp only at this
          show Exit.inBlock id Q (.exit j) a' w'
          unfold Exit.inBlock
          by_cases hj : j = id
          · subst hj
            simp only [Nat.beq_refl, if_true] at this
            simp only [if_true]
            exact this hs'
          · have hb : Nat.beq j id = false := by
              cases hq : Nat.beq j id
              · rfl
              · exact absurd (Nat.eq_of_beq_eq_true hq) hj
            rw [hb] at this
            simp only [hj, if_false]
            exact this hs'
        | ret => exact this hs'
        | bad => exact (this hs').elim
      · cases h
    case cond x y z =>
      split at h
      · rename_i e he
        obtain ⟨ν, ρ, hag, hpc, hfw⟩ := hs
        obtain ⟨hf, hw⟩ := hfw trivial
        have hev := hf.eval he
        simp only [SV.den] at hev
        split at h
        · rename_i hk
          have := SB.known_den hpc hk
          rw [this] at hev
          exact wp_cond_true hev ((ih n (by omega)).code h (partOf_condL hp0) B ν0 ρ0 Q hI hQ hl a w ⟨ν, ρ, hag, hpc, hfw⟩)
        · rename_i hk
          have := SB.known_den hpc hk
          rw [this] at hev
          exact wp_cond_false hev ((ih n (by omega)).code h (partOf_condR hp0) B ν0 ρ0 Q hI hQ hl a w ⟨ν, ρ, hag, hpc, hfw⟩)
        · split at h
          · rename_i as bs has hbs
            cases h
            cases hq : e.den ν
            · rw [hq] at hev
              exact wp_cond_false hev ((ih n (by omega)).code hbs (partOf_condR hp0) B ν0 ρ0 Q hI hQ (fun L hL => hl L (List.mem_append_right _ hL)) a w ⟨ν, ρ, hag, pcDen_asm hq hpc, fun _ => ⟨hf, hw⟩⟩)
            · rw [hq] at hev
              exact wp_cond_true hev ((ih n (by omega)).code has (partOf_condL hp0) B ν0 ρ0 Q hI hQ (fun L hL => hl L (List.mem_append_left _ hL)) a w ⟨ν, ρ, hag, pcDen_asm hq hpc, fun _ => ⟨hf, hw⟩⟩)
          · cases h
      · cases h
    case region rid ops dr =>
      cases dr with
      | false =>
        simp only at h
        refine wp_region ?_
        have := (ih n (by omega)).ops h B ν0 ρ0 Q hI hQ hl ⟨.normal, fr, pc, hp⟩ (by simp) a w hs
        rw [List.range_eq_range']
        exact this
      | true =>
        simp only at h
        split at h
        · rename_i m fr' hT
          unfold headT at hT
          split at hT
          · cases hT
          rename_i nn htl
          split at hT
          case isFalse => cases hT
          rename_i hc
          split at hT
          · cases hT
          rename_i fr2 hhd
          cases hT
          simp only [Bool.and_eq_true] at hc
          obtain ⟨⟨hsz, hnz⟩, hhv⟩ := hc
          have hsz := Nat.le_of_ble_eq_true hsz
          have hnz := Nat.le_of_ble_eq_true hnz
          obtain ⟨ν, ρ, hag, hpc, hfw⟩ := hs
          obtain ⟨hf, hw⟩ := hfw trivial
          refine wp_region_K (C := fun w => HW B ν ρ hp w) _ pr.mixed (oo.tail hp0 htl) hw.drew ?_
          refine head_ok pr oo (fun m hm => ih m (by omega)) rfl rfl hhv (hag.I.trans hI) hpc ?_ _ 0 fr a (by omega) hhd hf
          intro a' hf' w' hw'
          exact (ih n (by omega)).ops h B ν0 ρ0 Q hI hQ hl ⟨.normal, fr', pc, hp⟩ (by simp) a' w' ⟨ν, ρ, hag, hpc, fun _ => ⟨hf', hw'⟩⟩
        split at h
        · rename_i ls' hT
          cases h
          unfold ordT at hT
          split at hT
          · cases hT
          rename_i l htl
          split at hT
          case isFalse => cases hT
          rename_i hc
          simp only [Bool.and_eq_true] at hc
          obtain ⟨⟨hsz, htop⟩, hhv⟩ := hc
          obtain ⟨ν, ρ, hag, hpc, hfw⟩ := hs
          obtain ⟨hf, hw⟩ := hfw trivial
          have i1 : Nat.ble lo (lo + (it * 2 ^ 20 + rid * 256) * (sz / K0)) = true := Nat.ble_eq_true_of_le (by omega)
          refine wp_region_O (S := fun w => HW B ν ρ hp w) pr.mixed hQ (oo.order hp0 htl) ?_
          refine order_ok pr oo (fun m hm => ih m (by omega)) (Nat.le_of_ble_eq_true hsz) rfl rfl hhv (hag.I.trans hI) hQ ?_ l fr pc hp a w.drew hT ⟨ν, ρ, Agree.refl _ _ _ _, hpc, fun _ => ⟨hf, hw.drew⟩⟩ hw.drew
          intro L hL a' w' hs'
          obtain ⟨ν3, ρ3, g1, g2, g3⟩ := hs'
          exact hl L hL a' w' ⟨ν3, ρ3, hag.trans (g1.mono i1 htop), g2, g3⟩
        split at h
        · rename_i hsel
          refine wp_region_any pr.mixed ?_
          obtain ⟨ν, ρ, hag, hpc, hfw⟩ := hs
          obtain ⟨hf, hw⟩ := hfw trivial
          have := (ih n (by omega)).draw h hsel B ν0 ρ0 Q hI hQ hl _ _ (by simp; exact ⟨rfl, rfl⟩) ⟨.normal, fr, pc, hp⟩ (by simp) a w.drew ⟨ν, ρ, hag, hpc, fun _ => ⟨hf, hw.drew⟩⟩
          simp only [List.toArray_replicate] at this
          exact this
        · cases h
    case loop x =>
      split at h
      · rename_i r hor
        split at h
        · rename_i hc
          simp only [Bool.and_eq_true] at hc
          subst h
          obtain ⟨ν, ρ, hag, hpc, hfw⟩ := hs
          obtain ⟨hf, hw⟩ := hfw trivial
          have i1 : Nat.ble lo (lo + (it * 2 ^ 20 + site x * 256 + 255) * (sz / K0)) = true := Nat.ble_eq_true_of_le (by omega)
          refine oo.loop hp0 hor (sz / K0) (Nat.le_of_ble_eq_true hc.2) B ν ρ Q hQ (hag.I.trans hI) ?_ a w hpc hf hw
          intro L hL a' w' hs'
          obtain ⟨ν', ρ', hag', hpc', hfw'⟩ := hs'
          exact hl L hL a' w' ⟨ν', ρ', hag.trans (hag'.mono i1 hc.1), hpc', hfw'⟩
        · cases h
      · have := (ih n (by omega)).loops h (partOf_loop hp0) B ν0 ρ0 Q hI hQ hl ⟨.normal, fr, pc, hp⟩ (by simp) a w hs
        exact wp_loop_rounds _ this
    all_goals (cases h)

theorem ok_loops {n : Nat} (ih : ∀ m, m < n → AllOK P O I m) {lo sz f it k : Nat} {c : Code} {ls ls' : List Leaf} (h : loopX0 P O lo sz f n it k c ls = some ls') (hp0 : PartOf P f c) (B : Base) (ν0 : Env G) (ρ0 : Nat → Nat) (Q : Exit → Act → World → Prop) (hI : ν0.I = I) (hQ : NP Q)
    (hl : ∀ L ∈ ls', ∀ a w, SatL lo (lo + sz) ν0 ρ0 B L a w → LQ Q L.ex a w) : ∀ L ∈ ls, ∀ a w, SatL lo (lo + sz) ν0 ρ0 B L a w → RQ (Code.rounds P c Q k) Q L.ex a w := by
  cases n with
  | zero => simp [loopX0] at h
  | succ n =>
    unfold loopX0 at h
    split at h
    · rename_i hno
      cases h
      intro L hL a w hs
      have h1 := hl L hL a w hs
      have h2 := List.find?_eq_none.1 hno L hL
      cases hex : L.ex with
      | normal => rw [hex] at h2; simp at h2
      | exit i => rw [hex] at h1; exact h1
      | ret => rw [hex] at h1; exact h1
      | bad => rw [hex] at h1; exact h1
    · split at h
      · cases h
      · rename_i k
        split at h
        · rename_i l1 h1
          have h2 := (ih n (by omega)).loops h hp0 B ν0 ρ0 Q hI hQ hl
          intro L hL a w hs
          obtain ⟨l2, h3, hsub⟩ := bindL_mem h1 L hL
          obtain ⟨ex, fr, pc, hp⟩ := L
          cases ex with
          | normal =>
            show Code.rounds P c Q (k + 1) a w
            rw [rounds_succ]
            refine (ih n (by omega)).code h3 hp0 B ν0 ρ0 (Exit.then (Code.rounds P c Q k) Q) hI (fun ch a w hq => hQ ch a w hq) ?_ a w hs
            intro L' hL' a' w' hs'
            have h4 := h2 L' (hsub L' hL') a' w' hs'
            cases hex : L'.ex with
            | normal => rw [hex] at h4; exact h4
            | exit i => rw [hex] at h4; exact h4
            | ret => rw [hex] at h4; exact h4
            | bad => rw [hex] at h4; exact h4
          | exit j => simp only [Option.some.injEq] at h3; subst h3; exact h2 _ (hsub _ (by simp)) a w hs
          | ret => simp only [Option.some.injEq] at h3; subst h3; exact h2 _ (hsub _ (by simp)) a w hs
          | bad => simp only [Option.some.injEq] at h3; subst h3; exact h2 _ (hsub _ (by simp)) a w hs
        · cases h

theorem all_ok (pr : PR P) (oo : OOK P O I) (n : Nat) : AllOK P O I n := by
  induction n using Nat.strongRecOn with
  | _ n ih =>
    exact { code := fun h hp0 B ν0 ρ0 Q hI hQ hl a w hs => ok_code pr oo ih h hp0 B ν0 ρ0 Q hI hQ hl a w hs
            loops := fun h hp0 B ν0 ρ0 Q hI hQ hl => ok_loops ih h hp0 B ν0 ρ0 Q hI hQ hl
            ops := fun h B ν0 ρ0 Q hI hQ hl => ok_ops ih h B ν0 ρ0 Q hI hQ hl
            step := fun h B ν0 ρ0 Q K hI hQ hl => ok_step pr oo ih h B ν0 ρ0 Q K hI hQ hl
            call := fun h B ν ρ w R hI hpc hw hc => ok_call oo ih h B ν ρ w R hI hpc hw hc
            draw := fun h hsel B ν0 ρ0 Q hI hQ hl => ok_draw ih h hsel B ν0 ρ0 Q hI hQ hl
            level := fun h => ok_level ih h
            side := fun h => ok_side ih h }
end
#print axioms all_ok
end Go.Sy
end

section
namespace Go.Sy
open Go

/-! ### the executor once more, in small pieces (the kernel runs it faster) -/
structure Rec where
  code : Nat → Nat → Nat → Nat → Code → List SV → PC → Heap → Option (List Leaf)
  loop : Nat → Nat → Nat → Nat → Nat → Code → List Leaf → Option (List Leaf)
  ops : Nat → Nat → Nat → Nat → Nat → Array Oper → Nat → Nat → List Leaf → Option (List Leaf)
  step : Nat → Nat → Nat → Nat → Nat → Array Oper → Nat → List Leaf → Option (List Leaf)
  call : Nat → Nat → Nat → List SV → PC → Heap → Option (List CLeaf)
  draw : Nat → Nat → Nat → Nat → Nat → Array Oper → Nat → Front → Option (List Leaf)
  level : Nat → Nat → Nat → Nat → Nat → Array Oper → Front → Front → Option Front
  side : Nat → Nat → Nat → Nat → Nat → Array Oper → List Bool → List Leaf → List Nat → Front → Option Front
def Rec.zero : Rec := ⟨fun _ _ _ _ _ _ _ _ => none, fun _ _ _ _ _ _ _ => none, fun _ _ _ _ _ _ _ _ _ => none, fun _ _ _ _ _ _ _ _ => none, fun _ _ _ _ _ _ => none, fun _ _ _ _ _ _ _ _ => none, fun _ _ _ _ _ _ _ _ => none, fun _ _ _ _ _ _ _ _ _ _ => none⟩

/-! one operation, arm by arm -/
def oOne (v : SV) (hp : Heap) : List (PC × ORes) := [([], .val v hp)]
def oMap (hp : Heap) : Option SV → Option (List (PC × ORes))
  | some v => some (oOne v hp)
  | none => none
def oMk (nm : Nat) (hp : Heap) (e : Nat) (cs : List SV) (v : SV) : Option (List (PC × ORes)) :=
  if avL nm (nm + 1) cs && hav nm (nm + 1) hp then some [([], .val v (hadd nm (.cells cs e true) hp))] else none
def oPick (fr : List SV) (pc : PC) (hp : Heap) (c a b : Operand) : Option (List (PC × ORes)) :=
  match evalO fr c with
  | some (.bool e) =>
    match e.known pc with
    | some true => (evalO fr a).map (oOne · hp)
    | some false => (evalO fr b).map (oOne · hp)
    | none => match evalO fr a, evalO fr b with
      | some x, some y => some [([asm e true], .val x hp), ([asm e false], .val y hp)]
      | _, _ => none
  | _ => none
def oAlloc (P : Program) (nm : Nat) (hp : Heap) (e : Nat) : Option (List (PC × ORes)) := match zeroT P e with
  | some z => oMk nm hp e z.cellsOf (.ptr nm (.lit 0))
  | none => none
def oBox (nm : Nat) (fr : List SV) (hp : Heap) (e : Nat) (x : Operand) : Option (List (PC × ORes)) := match evalO fr x with
  | some v => oMk nm hp e v.cellsOf (.ptr nm (.lit 0))
  | none => none
def oBuild (P : Program) (fr : List SV) (hp : Heap) (t : Nat) (ps : Array (Nat × Operand)) : Option (List (PC × ORes)) := match evalP fr ps.toList with
  | some parts => (buildX P t parts).map (oOne · hp)
  | none => none
def oBuildSlice (P : Program) (nm : Nat) (fr : List SV) (hp : Heap) (t len : Nat) (ps : Array (Nat × Operand)) : Option (List (PC × ORes)) := match evalP fr ps.toList with
  | some parts => match buildSliceX P t len parts with
    | some (cs, e) => oMk nm hp e cs (.sl nm (.lit 0) (.lit len) (.lit len))
    | none => none
  | none => none
def oLoad (P : Program) (fr : List SV) (pc : PC) (hp : Heap) (t : Nat) (x : Operand) : Option (List (PC × ORes)) := match evalO fr x with
  | some p => (loadX P pc hp t p).map (outsV hp)
  | none => none
def oStore (P : Program) (fr : List SV) (pc : PC) (hp : Heap) (t : Nat) (x y : Operand) : Option (List (PC × ORes)) := match evalO fr x, evalO fr y with
  | some p, some v => (storeX P pc hp t p v).map outsH
  | _, _ => none
def oNil (fr : List SV) (hp : Heap) (x : Operand) : Option (List (PC × ORes)) := match evalO fr x with
  | some (.ptr b off) => some (oOne (.ptr b off) hp)
  | some (.fn f a c) => some (oOne (.fn f a c) hp)
  | some .nilPtr | some .nilFunc => some [([], .bad)]
  | _ => none
def oBin (P : Program) (fr : List SV) (pc : PC) (hp : Heap) (op : BinOp) (t : Nat) (x y : Operand) : Option (List (PC × ORes)) := match evalO fr x, evalO fr y with
  | some a, some b => (binX P pc op t a b).map (outsV hp)
  | _, _ => none
def oUn (fr : List SV) (hp : Heap) (op : UnOp) (x : Operand) : Option (List (PC × ORes)) := match evalO fr x with
  | some a => (unX op a).map (oOne · hp)
  | none => none
def oConv (P : Program) (fr : List SV) (hp : Heap) (s d : Nat) (x : Operand) : Option (List (PC × ORes)) := match evalO fr x, P.underlying s, P.underlying d with
  | some (.int _ a), some (.int _), some (.int k) => some (oOne (.int k (SI.mkWrap k a)) hp)
  | _, _, _ => none
def oMakeFunc (fr : List SV) (hp : Heap) (fn : Fn) (first caps : Array Operand) : Option (List (PC × ORes)) :=
  match fn, evalOL fr first.toList, evalOL fr caps.toList with
  | .func f, some a, some c => some (oOne (.fn f a c) hp)
  | _, _, _ => none
def oExtract (fr : List SV) (hp : Heap) (x : Operand) (i : Nat) : Option (List (PC × ORes)) := match evalO fr x with
  | some (.tup l) => (l[i]?).map (oOne · hp)
  | _ => none
def oFieldAddr (P : Program) (fr : List SV) (pc : PC) (hp : Heap) (s : Nat) (x : Operand) (f : Nat) : Option (List (PC × ORes)) := match evalO fr x, P.underlying s with
  | some (.ptr b off), some (.struct fs) =>
    match fs[f]? with
    | some g => match sizeT P g.type with
      | some n => if Nat.ble 1 n && off.nn pc then some (oOne (.ptr b (SI.mkAdd off (.lit (.ofNat g.offset)))) hp) else none
      | none => none
    | none => none
  | _, _ => none
def oField (P : Program) (fr : List SV) (hp : Heap) (s : Nat) (x : Operand) (f : Nat) : Option (List (PC × ORes)) := match evalO fr x, P.underlying s with
  | some (.agg cs), some (.struct fs) =>
    match fs[f]? with
    | some g => match aggT P g.type, sizeT P g.type with
      | some true, some n => if Nat.ble (g.offset + n) cs.length then some (oOne (.agg ((cs.drop g.offset).take n)) hp) else none
      | some false, _ => (cs[g.offset]?).map (oOne · hp)
      | _, _ => none
    | none => none
  | _, _ => none
def oIndexAddr (P : Program) (fr : List SV) (pc : PC) (hp : Heap) (t : Nat) (x i : Operand) : Option (List (PC × ORes)) := match evalO fr x, evalO fr i, P.underlying t with
  | some (.sl b off len _), some (.int _ k), some (.slice e) =>
    match sizeT P e with
    | some n => (indexX pc n b off len k).map (outsV hp)
    | none => none
  | some (.ptr b (.lit (.ofNat off))), some (.int _ (.lit (.ofNat k))), some (.array len e) =>
    match sizeT P e with
    | some n => if Nat.ble (k + 1) len then some (oOne (.ptr b (.lit (off + k * n : Nat))) hp) else none
    | none => none
  | some (.ptr b (.lit (.ofNat off))), some (.int _ k), some (.array len e) =>
    match sizeT P e with
    | some n => if Nat.ble len 64 then some ((forkX k len 0 pc).map fun x => (x.1, match x.2 with | some j => .val (.ptr b (.lit (.ofNat (off + j * n)))) hp | none => .bad)) else none
    | none => none
  | some .nilSl, some (.int _ _), some (.slice _) | some (.emp _), some (.int _ _), some (.slice _) => some [([], .bad)]
  | _, _, _ => none
def oSlice (P : Program) (fr : List SV) (hp : Heap) (t : Nat) (x : Operand) (lo hi mx : Option Operand) : Option (List (PC × ORes)) := match evalO fr x, optL fr lo, optL fr hi, optL fr mx with
  | some v, some l, some h, some m => (sliceX P t v l h m).map (oOne · hp)
  | _, _, _, _ => none
def oMakeSlice (P : Program) (nm : Nat) (fr : List SV) (pc : PC) (hp : Heap) (t : Nat) (l c : Operand) : Option (List (PC × ORes)) := match evalO fr l, evalO fr c with
  | some (.int .i64 a), some (.int .i64 b) => (makeX P nm pc hp t a b).map outsVH
  | _, _ => none
def opY (P : Program) (nm : Nat) (fr : List SV) (pc : PC) (hp : Heap) (o : Oper) : Option (List (PC × ORes)) :=
  match o.op with
  | .move x => (evalO fr x).map (oOne · hp)
  | .assign x => (evalO fr x).map (oOne · hp)
  | .pick c a b => oPick fr pc hp c a b
  | .alloc e => oAlloc P nm hp e
  | .box e x => oBox nm fr hp e x
  | .build t ps => oBuild P fr hp t ps
  | .buildSlice t len ps => oBuildSlice P nm fr hp t len ps
  | .load t x => oLoad P fr pc hp t x
  | .store t x y => oStore P fr pc hp t x y
  | .nilCheck x => oNil fr hp x
  | .binOp op t x y _ => oBin P fr pc hp op t x y
  | .unOp op _ x => oUn fr hp op x
  | .convert s d x => oConv P fr hp s d x
  | .makeFunc fn first caps => oMakeFunc fr hp fn first caps
  | .extract x i => oExtract fr hp x i
  | .fieldAddr s x f => oFieldAddr P fr pc hp s x f
  | .field s x f => oField P fr hp s x f
  | .indexAddr t x i => oIndexAddr P fr pc hp t x i
  | .slice t x lo hi mx => oSlice P fr hp t x lo hi mx
  | .makeSlice t l c => oMakeSlice P nm fr pc hp t l c
  | _ => opX P nm fr pc hp o
theorem opY_eq (P : Program) (nm : Nat) (fr : List SV) (pc : PC) (hp : Heap) (o : Oper) : opY P nm fr pc hp o = opX P nm fr pc hp o := by
  unfold opY
  split <;> (try rfl) <;> (rename_i h; unfold opX; rw [h]; rfl)

/-! the walk -/
def seqK (r : Rec) (lo sz f it : Nat) (b : Code) : Leaf → Option (List Leaf)
  | ⟨.normal, fr, pc, hp⟩ => r.code lo sz f it b fr pc hp
  | L => some [L]
def seqS (r : Rec) (lo sz f it : Nat) (a b : Code) (fr : List SV) (pc : PC) (hp : Heap) : Option (List Leaf) := match r.code lo sz f it a fr pc hp with
  | some ls => bindL (seqK r lo sz f it b) ls
  | none => none
def blockK (id : Nat) : Leaf → Leaf
  | ⟨.exit j, fr, pc, hp⟩ => if Nat.beq j id then ⟨.normal, fr, pc, hp⟩ else ⟨.exit j, fr, pc, hp⟩
  | L => L
def blockS (r : Rec) (lo sz f it id : Nat) (a : Code) (fr : List SV) (pc : PC) (hp : Heap) : Option (List Leaf) := match r.code lo sz f it a fr pc hp with
  | some ls => some (ls.map (blockK id))
  | none => none
def both : Option (List Leaf) → Option (List Leaf) → Option (List Leaf)
  | some as, some bs => some (as ++ bs)
  | _, _ => none
def condS (r : Rec) (lo sz f it : Nat) (x : Operand) (a b : Code) (fr : List SV) (pc : PC) (hp : Heap) : Option (List Leaf) := match evalO fr x with
  | some (.bool e) => match e.known pc with
    | some true => r.code lo sz f it a fr pc hp
    | some false => r.code lo sz f it b fr pc hp
    | none => both (r.code lo sz f it a fr (asm e true :: pc) hp) (r.code lo sz f it b fr (asm e false :: pc) hp)
  | _ => none
def loopC (O : Orac) (r : Rec) (lo sz f it : Nat) (a : Code) (fr : List SV) (pc : PC) (hp : Heap) : Option (List Leaf) :=
  let sub := sz / K0
  let nm := lo + (it * 2 ^ 20 + site a * 256 + 255) * sub
  match O.loop f (site a) nm fr pc hp with
  | some x => if Nat.ble (nm + sub) (lo + sz) && Nat.ble 64 sub then x else none
  | none => r.loop lo sz f (it * 128) O.unroll a [⟨.normal, fr, pc, hp⟩]
def regT (r : Rec) (lo sz f it rid : Nat) (ops : Array Oper) (fr : List SV) (pc : PC) (hp : Heap) : Option (List Leaf) :=
  if Region.noSelect ops then r.draw lo sz f it rid ops ops.size [(List.replicate ops.size false, [⟨.normal, fr, pc, hp⟩])] else none
def regH (P : Program) (O : Orac) (r : Rec) (lo sz f it rid : Nat) (ops : Array Oper) (fr : List SV) (pc : PC) (hp : Heap) : Option (Nat × List SV) :=
  headT P (opY P 0) (r.step lo sz f it rid ops) (lo + (it * 2 ^ 20 + rid * 256) * (sz / K0)) (sz / K0) hp pc ops fr (O.tail f rid)
def regS (P : Program) (O : Orac) (r : Rec) (lo sz f it rid : Nat) (ops : Array Oper) (fr : List SV) (pc : PC) (hp : Heap) : Bool → Option (List Leaf)
  | false => r.ops lo sz f it rid ops 0 ops.size [⟨.normal, fr, pc, hp⟩]
  | true => match regH P O r lo sz f it rid ops fr pc hp with
    | some (m, fr') => r.ops lo sz f it rid ops m (ops.size - m) [⟨.normal, fr', pc, hp⟩]
    | none => match ordT P (opY P 0) (r.step lo sz f it rid ops) (lo + (it * 2 ^ 20 + rid * 256) * (sz / K0)) (sz / K0) (lo + sz) hp pc ops fr (O.order f rid) with
      | some ls => some ls
      | none => regT r lo sz f it rid ops fr pc hp
def codeS (P : Program) (O : Orac) (r : Rec) (lo sz f it : Nat) (c : Code) (fr : List SV) (pc : PC) (hp : Heap) : Option (List Leaf) :=
  match c with
  | .skip => some [⟨.normal, fr, pc, hp⟩]
  | .ret => some [⟨.ret, fr, pc, hp⟩]
  | .exit id => some [⟨.exit id, fr, pc, hp⟩]
  | .seq a b => seqS r lo sz f it a b fr pc hp
  | .block id a => blockS r lo sz f it id a fr pc hp
  | .cond x a b => condS r lo sz f it x a b fr pc hp
  | .region rid ops b => regS P O r lo sz f it rid ops fr pc hp b
  | .loop a => loopC O r lo sz f it a fr pc hp
  | _ => none
def isNormal : Leaf → Bool
  | ⟨.normal, _, _, _⟩ => true
  | _ => false
def loopK (r : Rec) (lo sz f it : Nat) (c : Code) : Leaf → Option (List Leaf)
  | ⟨.normal, fr, pc, hp⟩ => r.code lo sz f (it + 1) c fr pc hp
  | L => some [L]
def loopR (r : Rec) (lo sz f it k : Nat) (c : Code) (ls : List Leaf) : Option (List Leaf) := match bindL (loopK r lo sz f it c) ls with
  | some ls' => r.loop lo sz f (it + 1) k c ls'
  | none => none
def loopS (r : Rec) (lo sz f it k : Nat) (c : Code) (ls : List Leaf) : Option (List Leaf) :=
  match ls.find? isNormal with
  | none => some ls
  | some _ => match k with
    | 0 => none
    | k + 1 => loopR r lo sz f it k c ls
def opsS (r : Rec) (lo sz f it rid : Nat) (ops : Array Oper) (j k : Nat) (ls : List Leaf) : Option (List Leaf) := match k with
  | 0 => some ls
  | k + 1 => match r.step lo sz f it rid ops j ls with
    | some ls' => r.ops lo sz f it rid ops (j + 1) k ls'
    | none => none
def stepN (o : Oper) (fr : List SV) (v : SV) (pc : PC) (hp : Heap) : Option (List Leaf) := some [⟨.normal, fput fr o.dst v, pc, hp⟩]
def stepV (o : Oper) (nm : Nat) (fr : List SV) (v : SV) (pc : PC) (hp : Heap) : Option (List Leaf) :=
  if makes o.op then (if avL nm (nm + 1) fr && pav nm (nm + 1) pc then stepN o fr v pc hp else none) else stepN o fr v pc hp
def stepB (o : Oper) (nm : Nat) (pc : PC) : Option (List Leaf) :=
  if makes o.op then (if pav nm (nm + 1) pc then some [⟨.bad, [], pc, []⟩] else none) else some [⟨.bad, [], pc, []⟩]
def stepCK (d : Option Nat) (fr : List SV) : CLeaf → Leaf
  | ⟨true, _, pc, _⟩ => ⟨.bad, [], pc, []⟩
  | ⟨false, v, pc, hp⟩ => ⟨.normal, fput fr d v, pc, hp⟩
/-- Two paths, the first one looked at at once. -/
def withPc {α : Type} (a b : PC) (k : PC → α) : α := match a with
  | [] => k b
  | [x] => k (x :: b)
  | x :: y :: l => k (x :: y :: (l ++ b))
theorem withPc_eq {α : Type} (a b : PC) (k : PC → α) : withPc a b k = k (a ++ b) := by
  unfold withPc
  split <;> rfl
def stepC (r : Rec) (o : Oper) (nm sub : Nat) (fr : List SV) (g : Nat) (args : List SV) (pc : PC) (hp : Heap) : Option (List Leaf) :=
  if makes o.op then none else
  if avL nm (nm + sub) fr then
    match r.call nm sub g args pc hp with
    | none => none
    | some cs => some (cs.map (stepCK o.dst fr))
  else none
def stepP (r : Rec) (o : Oper) (nm sub : Nat) (fr : List SV) (hp0 : Heap) (x : ORes) (pc : PC) : Option (List Leaf) := match x with
  | .fail => none
  | .val v hp => stepV o nm fr v pc hp
  | .skip hp => if makes o.op then none else stepN o fr (.tup []) pc hp
  | .bad => stepB o nm pc
  | .call g args => stepC r o nm sub fr g args pc hp0
def stepO (r : Rec) (o : Oper) (nm sub : Nat) (fr : List SV) (pc : PC) (hp0 : Heap) : PC × ORes → Option (List Leaf)
  | (q, x) => withPc q pc (stepP r o nm sub fr hp0 x)
def opZ (P : Program) (O : Orac) (nm : Nat) (fr : List SV) (pc : PC) (hp : Heap) (o : Oper) : Option (List (PC × ORes)) :=
  match pureOp o.op with
  | true => opY P nm fr pc hp o
  | false => match O.op nm fr pc hp o with
    | some r => some r
    | none => opY P nm fr pc hp o
theorem opZ_eq (P : Program) (O : Orac) (nm : Nat) (fr : List SV) (pc : PC) (hp : Heap) (o : Oper) : opZ P O nm fr pc hp o = opO P O nm fr pc hp o := by
  unfold opZ opO
  simp only [opY_eq]
  cases pureOp o.op <;> rfl
def stepM (P : Program) (O : Orac) (r : Rec) (o : Oper) (nm sub top : Nat) (fr : List SV) (pc : PC) (hp : Heap) : Option (List Leaf) :=
  if Nat.ble (nm + sub) top && Nat.ble 1 sub then
    match opZ P O nm fr pc hp o with
    | none => none
    | some outs => bindL (stepO r o nm sub fr pc hp) outs
  else none
def stepW2 (P : Program) (O : Orac) (r : Rec) (o : Oper) (lo sz it rid j : Nat) (fr : List SV) (hp : Heap) (w : Bool) (pc : PC) : Option (List Leaf) :=
  if w then stepM P O r o (lo + (it * 2 ^ 20 + rid * 256 + j) * (sz / K0)) (sz / K0) (lo + sz) fr pc hp
  else some [⟨.normal, fput fr o.dst (.tup []), pc, hp⟩]
def stepW (P : Program) (O : Orac) (r : Rec) (o : Oper) (lo sz it rid j : Nat) (fr : List SV) (pc : PC) (hp : Heap) : PC × Bool → Option (List Leaf)
  | (q, w) => withPc q pc (stepW2 P O r o lo sz it rid j fr hp w)
def stepL (P : Program) (O : Orac) (r : Rec) (ops : Array Oper) (o : Oper) (lo sz it rid j : Nat) : Leaf → Option (List Leaf)
  | ⟨.normal, fr, pc, hp⟩ => bindO (wantX ops fr pc o) (stepW P O r o lo sz it rid j fr pc hp)
  | L => some [L]
def stepS (P : Program) (O : Orac) (r : Rec) (lo sz _f it rid : Nat) (ops : Array Oper) (j : Nat) (ls : List Leaf) : Option (List Leaf) := match ops[j]? with
  | none => none
  | some o => bindL (stepL P O r ops o lo sz it rid j) ls
def callR (lo sz : Nat) (pc : PC) (hp : Heap) : Option (List SV) → Option (List CLeaf)
  | some vs => some [⟨false, oneOr vs, pc, clean lo (lo + sz) (oneOr vs) hp⟩]
  | none => none
def callL (P : Program) (fn : Func) (lo sz : Nat) : Leaf → Option (List CLeaf)
  | ⟨.normal, fr, pc, hp⟩ => callR lo sz pc hp (resX P fr hp fn.results.toList)
  | ⟨.ret, fr, pc, hp⟩ => callR lo sz pc hp (resX P fr hp fn.results.toList)
  | ⟨.bad, _, pc, _⟩ => some [⟨true, .tup [], pc, []⟩]
  | ⟨.exit _, _, _, _⟩ => none
def callB (P : Program) (r : Rec) (lo sz f : Nat) (fn : Func) (c : Code) (args : List SV) (pc : PC) (hp : Heap) : Option (List CLeaf) :=
  match r.code lo sz f 0 c (args ++ List.replicate (fn.ntmps - args.length) (.tup [])) pc hp with
  | none => none
  | some ls => bindL (callL P fn lo sz) ls
def callS (P : Program) (O : Orac) (r : Rec) (lo sz f : Nat) (args : List SV) (pc : PC) (hp : Heap) : Option (List CLeaf) :=
  match O.call f lo args pc hp with
  | some x => if Nat.ble 64 sz then x else none
  | none => match P.funcs[f]? with
    | none => none
    | some fn => match fn.body with
      | none => none
      | some c => callB P r lo sz f fn c args pc hp
def drawE (ops : Array Oper) : Front → Option (List Leaf)
  | [(l, t)] => if (readyX ops l).isEmpty then some t else none
  | _ => none
def drawS (r : Rec) (lo sz f it rid : Nat) (ops : Array Oper) (k : Nat) (F : Front) : Option (List Leaf) := match k with
  | 0 => drawE ops F
  | k + 1 => match r.level lo sz f it rid ops F [] with
    | some G => r.draw lo sz f it rid ops k G
    | none => none
def firstX (ops : Array Oper) (l : List Bool) (i : Nat) : Bool := (match ops[i]? with | some o => pureOp o.op && o.guard.isNone | none => false) && Region.free .any ops l.toArray i
def levelT (r : Rec) (lo sz f it rid : Nat) (ops : Array Oper) (l : List Bool) (t : List Leaf) (rest : Front) (is : List Nat) (G : Front) : Option Front := match r.side lo sz f it rid ops l t is G with
  | some G' => r.level lo sz f it rid ops rest G'
  | none => none
def levelS (r : Rec) (lo sz f it rid : Nat) (ops : Array Oper) (F G : Front) : Option Front := match F with
  | [] => some G
  | (l, t) :: rest => match (readyX ops l).find? (firstX ops l) with
    | some i => levelT r lo sz f it rid ops l t rest [i] G
    | none => match readyX ops l with
      | [] => none
      | is => levelT r lo sz f it rid ops l t rest is G
def sideS (r : Rec) (lo sz f it rid : Nat) (ops : Array Oper) (l : List Bool) (t : List Leaf) (is : List Nat) (G : Front) : Option Front := match is with
  | [] => some G
  | i :: is' => match r.step lo sz f it rid ops i t with
    | none => none
    | some t' => match merge (l.set i true) t' G with
      | none => none
      | some G' => r.side lo sz f it rid ops l t is' G'
def recS (P : Program) (O : Orac) (r : Rec) : Rec := ⟨codeS P O r, loopS r, opsS r, stepS P O r, callS P O r, drawS r, levelS r, sideS r⟩
def recN (P : Program) (O : Orac) : Nat → Rec
  | 0 => .zero
  | n + 1 => recS P O (recN P O n)

structure RecEq (P : Program) (O : Orac) (n : Nat) : Prop where
  code : ∀ lo sz f it c fr pc hp, (recN P O n).code lo sz f it c fr pc hp = codeX0 P O lo sz f n it c fr pc hp
  loop : ∀ lo sz f it k c ls, (recN P O n).loop lo sz f it k c ls = loopX0 P O lo sz f n it k c ls
  ops : ∀ lo sz f it rid ops j k ls, (recN P O n).ops lo sz f it rid ops j k ls = opsX0 P O lo sz f n it rid ops j k ls
  step : ∀ lo sz f it rid ops j ls, (recN P O n).step lo sz f it rid ops j ls = stepX0 P O lo sz f n it rid ops j ls
  call : ∀ lo sz f args pc hp, (recN P O n).call lo sz f args pc hp = callX0 P O lo sz n f args pc hp
  draw : ∀ lo sz f it rid ops k F, (recN P O n).draw lo sz f it rid ops k F = drawX0 P O lo sz f n it rid ops k F
  level : ∀ lo sz f it rid ops F G, (recN P O n).level lo sz f it rid ops F G = levelX0 P O lo sz f n it rid ops F G
  side : ∀ lo sz f it rid ops l t is G, (recN P O n).side lo sz f it rid ops l t is G = sideX0 P O lo sz f n it rid ops l t is G

theorem recN_eq (P : Program) (O : Orac) : ∀ n, RecEq P O n
  | 0 => { code := fun _ _ _ _ _ _ _ _ => rfl, loop := fun _ _ _ _ _ _ _ => rfl, ops := fun _ _ _ _ _ _ _ _ _ => rfl, step := fun _ _ _ _ _ _ _ _ => rfl,
           call := fun _ _ _ _ _ _ => rfl, draw := fun _ _ _ _ _ _ _ _ => rfl, level := fun _ _ _ _ _ _ _ _ => rfl, side := fun _ _ _ _ _ _ _ _ _ _ => rfl }
  | n + 1 => by
    have ih := recN_eq P O n
    refine { code := ?_, loop := ?_, ops := ?_, step := ?_, call := ?_, draw := ?_, level := ?_, side := ?_ }
    · intro lo sz f it c fr pc hp
      show codeS P O (recN P O n) lo sz f it c fr pc hp = _
      cases c with
      | region rid ops b =>
        have hst : (recN P O n).step lo sz f it rid ops = stepX0 P O lo sz f n it rid ops := by funext j ls; exact ih.step ..
        have hop : opY P 0 = opX P 0 := by funext fr pc hp o; exact opY_eq ..
        cases b
        · simp only [codeX0, codeS, regS, ih.ops]
        · simp only [codeX0, codeS, regS, regH, regT, ih.ops, ih.draw, hst, hop]; rfl
      | cond x a b => simp only [codeX0, codeS, condS, ih.code]; rfl
      | seq a b =>
        have : seqK (recN P O n) lo sz f it b = fun L => match L.ex with | .normal => codeX0 P O lo sz f n it b L.fr L.pc L.hp | _ => some [L] := by
          funext L; obtain ⟨ex, fr, pc, hp⟩ := L; cases ex <;> simp only [seqK, ih.code]
        simp only [codeX0, codeS, seqS, ih.code, this]; rfl
      | block id a =>
        have : blockK id = fun L => match L.ex with | .exit j => if Nat.beq j id then { L with ex := .normal } else L | _ => L := by
          funext L; obtain ⟨ex, fr, pc, hp⟩ := L; cases ex <;> rfl
        simp only [codeX0, codeS, blockS, ih.code, this]; rfl
      | loop a => simp only [codeX0, codeS, loopC, ih.loop]; rfl
      | _ => simp only [codeX0, codeS]
    · intro lo sz f it k c ls
      show loopS (recN P O n) lo sz f it k c ls = _
      rw [loopX0.eq_def]
      have h2 : loopK (recN P O n) lo sz f it c = fun L => match L.ex with | .normal => codeX0 P O lo sz f n (it + 1) c L.fr L.pc L.hp | _ => some [L] := by
        funext L; obtain ⟨ex, fr, pc, hp⟩ := L; cases ex <;> simp only [loopK, ih.code]
      have h3 : isNormal = fun L => match L.ex with | .normal => true | _ => false := by
        funext L; obtain ⟨ex, fr, pc, hp⟩ := L; cases ex <;> rfl
      unfold loopS
      rw [h3]
      show (match ls.find? _ with | none => _ | some _ => _) = (match ls.find? _ with | none => _ | some _ => _)
      cases ls.find? (fun L => match L.ex with | .normal => true | _ => false) with
      | none => rfl
      | some x =>
        cases k with
        | zero => rfl
        | succ k => simp only [loopR, h2, ih.loop]; rfl
    · intro lo sz f it rid ops j k ls
      show opsS (recN P O n) lo sz f it rid ops j k ls = _
      rw [opsX0.eq_def]
      simp only [opsS, ih.step, ih.ops]; rfl
    · intro lo sz f it rid ops j ls
      show stepS P O (recN P O n) lo sz f it rid ops j ls = _
      rw [stepX0]
      unfold stepS
      cases ops[j]? with
      | none => rfl
      | some o =>
        show bindL _ _ = bindL _ _
        congr 1
        funext L
        obtain ⟨ex, fr, pc, hp⟩ := L
        cases ex with
        | normal =>
          show bindO _ _ = bindO _ _
          congr 1
          funext w
          obtain ⟨q, w⟩ := w
          simp only [stepW, withPc_eq]
          unfold stepW2 stepM
          simp only [opZ_eq]
          cases w with
          | false => rfl
          | true =>
            simp only [if_true]
            split
            · cases opO P O (lo + (it * 2 ^ 20 + rid * 256 + j) * (sz / K0)) fr (q ++ pc) hp o with
              | none => rfl
              | some outs =>
                show bindL _ _ = bindL _ _
                congr 1
                funext x
                obtain ⟨q2, x⟩ := x
                have hck : ∀ d : Option Nat, stepCK d fr = fun c => if c.bad then ⟨.bad, [], c.pc, []⟩ else ⟨.normal, fput fr d c.v, c.pc, c.hp⟩ := by
                  intro d; funext c; obtain ⟨b, v, pc, hp⟩ := c; cases b <;> rfl
                simp only [stepO, withPc_eq]
                unfold stepP
                cases x <;> simp only [stepV, stepN, stepB, stepC, ih.call, hck] <;> rfl
            · rfl
        | _ => rfl
    · intro lo sz f args pc hp
      show callS P O (recN P O n) lo sz f args pc hp = _
      rw [callX0]
      have hL : ∀ fn : Func, callL P fn lo sz = fun L => match L.ex with
          | .normal | .ret => match resX P L.fr L.hp fn.results.toList with
            | some vs => some [⟨false, oneOr vs, L.pc, clean lo (lo + sz) (oneOr vs) L.hp⟩]
            | none => none
          | .bad => some [⟨true, .tup [], L.pc, []⟩]
          | .exit _ => none := by
        intro fn; funext L; obtain ⟨ex, fr, pc, hp⟩ := L; cases ex <;> (simp only [callL, callR] <;> rfl)
      simp only [callS, callB, ih.code, hL]; rfl
    · intro lo sz f it rid ops k F
      show drawS (recN P O n) lo sz f it rid ops k F = _
      rw [drawX0.eq_def]
      simp only [drawS, ih.level, ih.draw]; rfl
    · intro lo sz f it rid ops F G
      show levelS (recN P O n) lo sz f it rid ops F G = _
      rw [levelX0.eq_def]
      simp only [levelS, levelT, ih.side, ih.level]; rfl
    · intro lo sz f it rid ops l t is G
      show sideS (recN P O n) lo sz f it rid ops l t is G = _
      rw [sideX0.eq_def]
      simp only [sideS, ih.step, ih.side]; rfl

def codeX (P : Program) (O : Orac) (lo sz f n it : Nat) (c : Code) (fr : List SV) (pc : PC) (hp : Heap) : Option (List Leaf) := (recN P O n).code lo sz f it c fr pc hp
def callX (P : Program) (O : Orac) (lo sz n f : Nat) (args : List SV) (pc : PC) (hp : Heap) : Option (List CLeaf) := (recN P O n).call lo sz f args pc hp
theorem codeX_eq (P : Program) (O : Orac) (lo sz f n it : Nat) (c : Code) (fr : List SV) (pc : PC) (hp : Heap) : codeX P O lo sz f n it c fr pc hp = codeX0 P O lo sz f n it c fr pc hp := (recN_eq P O n).code ..
theorem callX_eq (P : Program) (O : Orac) (lo sz n f : Nat) (args : List SV) (pc : PC) (hp : Heap) : callX P O lo sz n f args pc hp = callX0 P O lo sz n f args pc hp := (recN_eq P O n).call ..

section
variable {P : Program} {G : Type} {O : Orac} {I : In G}
theorem x_code (pr : PR P) (oo : OOK P O I) {n lo sz f it : Nat} {c : Code} {fr : List SV} {pc : PC} {hp : Heap} {ls : List Leaf} (h : codeX P O lo sz f n it c fr pc hp = some ls) (hp0 : PartOf P f c) (B : Base) (ν0 : Env G) (ρ0 : Nat → Nat) (Q : Exit → Act → World → Prop) (hI : ν0.I = I) (hQ : NP Q)
    (hl : ∀ L ∈ ls, ∀ a w, SatL lo (lo + sz) ν0 ρ0 B L a w → LQ Q L.ex a w) (a : Act) (w : World) (hs : SatL lo (lo + sz) ν0 ρ0 B ⟨.normal, fr, pc, hp⟩ a w) : c.wp P Q a w :=
  (all_ok pr oo n).code (codeX_eq P O lo sz f n it c fr pc hp ▸ h) hp0 B ν0 ρ0 Q hI hQ hl a w hs
theorem x_call (pr : PR P) (oo : OOK P O I) {n lo sz f : Nat} {args : List SV} {pc : PC} {hp : Heap} {cs : List CLeaf} (h : callX P O lo sz n f args pc hp = some cs) (B : Base) (ν : Env G) (ρ : Nat → Nat) (w : World) (R : Ending → World → Prop) (hI : ν.I = I) (hpc : pcDen ν pc) (hw : HW B ν ρ hp w)
    (hc : ∀ c ∈ cs, ∀ ν' ρ' w', Agree lo (lo + sz) ν ν' ρ ρ' → pcDen ν' c.pc → c.bad = false ∧ (HW B ν' ρ' c.hp w' → R (.returned (c.v.den ν' ρ')) w')) : Calls P f (denL ν ρ args).toArray w R :=
  (all_ok pr oo n).call (callX_eq P O lo sz n f args pc hp ▸ h) B ν ρ w R hI hpc hw hc
end
/-- A call, from fuel enough. -/
def runX (P : Program) (O : Orac) (f : Nat) (args : List SV) (pc : PC) (hp : Heap) : Option (List CLeaf) :=
  callX P O LO LO 6000 f args pc hp
/-- A piece of a function's code. -/
def pieceX (P : Program) (O : Orac) (f : Nat) (c : Code) (fr : List SV) (pc : PC) (hp : Heap) : Option (List Leaf) :=
  codeX P O LO LO f 6000 0 c fr pc hp
end Go.Sy
end

section
namespace Go.Sy
open Go

section
variable {P : Program} {G : Type} {O : Orac} {I : In G}

/-- A call, by the executor. -/
theorem runX_calls (pr : PR P) (oo : OOK P O I) {f : Nat} {args : List SV} {pc : PC} {hp : Heap} {cs : List CLeaf} (h : runX P O f args pc hp = some cs) (B : Base) (ν : Env G) (ρ : Nat → Nat) (w : World) (R : Ending → World → Prop) (hI : ν.I = I)
    (hpc : pcDen ν pc) (hw : HW B ν ρ hp w)
    (hc : ∀ c ∈ cs, ∀ ν' ρ' w', Agree LO (LO + LO) ν ν' ρ ρ' → pcDen ν' c.pc → c.bad = false ∧ (HW B ν' ρ' c.hp w' → R (.returned (c.v.den ν' ρ')) w')) : Calls P f (denL ν ρ args).toArray w R :=
  x_call pr oo h B ν ρ w R hI hpc hw hc

/-- No oracle. -/
theorem noOrac_ok : OOK P noOrac I := ⟨fun h => by simp [noOrac] at h, fun _ h => by simp [noOrac] at h, fun h => by simp [noOrac] at h, fun _ h => by simp [noOrac] at h, fun _ h => by simp [noOrac] at h⟩

/-- No ghosts. -/
def In.none : In Unit := ⟨fun _ _ _ _ => 0, fun _ _ _ _ => false, fun _ _ _ _ => [], fun _ _ _ _ _ _ _ _ => (), fun _ _ _ => .bool false, fun _ _ _ => rfl, fun _ _ _ F => ∀ k, ¬ F k, fun h k hk => absurd hk (h k), fun h _ => h⟩

/-- The heap of which nothing is said. -/
theorem HW.empty (B : Base) (ν : Env G) (ρ : Nat → Nat) : HW B ν ρ [] B.w0 :=
  ⟨rfl, rfl, rfl, Nat.le_refl _, fun _ _ => rfl, by simp, ⟨fun _ _ => False, fun n b h => (List.not_mem_nil h).elim, fun n b k h => (List.not_mem_nil h).elim, fun n b m c k h => (List.not_mem_nil h).elim⟩⟩
end
end Go.Sy
end

section
namespace Go.Sy
open Go Go.RowKit Go.ChangeShapes Go.WideShapes Go.ChangeAt

theorem pcDen_cons_iff {G : Type} {ν : Env G} {c : SB} {b : Bool} {q : PC} : pcDen ν ((c, b) :: q) ↔ c.den ν = b ∧ pcDen ν q :=
  ⟨fun h => ⟨h c b (by simp), fun d x hm => h d x (by simp [hm])⟩, fun h => pcDen_cons h.1 h.2⟩
theorem pcDen_nil_iff {G : Type} {ν : Env G} : pcDen ν [] ↔ True := ⟨fun _ => trivial, fun _ => pcDen_nil ν⟩

/-- The base of a law: nothing old may turn. -/
def baseOf (w : World) : Base := ⟨w, fun _ => False⟩
theorem baseOf_own (w : World) (k : Nat) : (baseOf w).own k ↔ w.heap.size ≤ k := by simp [baseOf, Base.own]

theorem HW.below {G : Type} {ν : Env G} {ρ : Nat → Nat} {hp : Heap} {w w' : World} (h : HW (baseOf w) ν ρ hp w') : Below w.heap.size w w' :=
  ⟨h.os, h.tape, h.output, h.size, fun k hk => h.kept k (by rw [baseOf_own]; omega)⟩

/-- A law, by the executor. -/
theorem runX_law {P : Program} {G : Type} {O : Orac} {I : In G} (pr : PR P) (oo : OOK P O I) {f : Nat} {args : List SV} {pc : PC} {hp : Heap} {cs : List CLeaf} (h : runX P O f args pc hp = some cs) (w : World) (ν : Env G) (ρ : Nat → Nat) (hI : ν.I = I)
    (hpc : pcDen ν pc) (hw : HW (baseOf w) ν ρ hp w)
    (hc : ∀ c ∈ cs, ∀ ν' ρ', Agree LO (LO + LO) ν ν' ρ ρ' → pcDen ν' c.pc → c.bad = false ∧ c.v.den ν' ρ' = .bool true) : Calls P f (denL ν ρ args).toArray w fun e w' => e = .returned (.bool true) ∧ Below w.heap.size w w' :=
  runX_calls pr oo h (baseOf w) ν ρ w _ hI hpc hw fun c hm ν' ρ' w' hag hp' => by
    obtain ⟨h1, h2⟩ := hc c hm ν' ρ' hag hp'
    exact ⟨h1, fun hw' => ⟨by rw [h2], hw'.below⟩⟩

/-- The row's 'post', where nothing old has turned. -/
theorem post_of_below {H : Type} {enc : TypeId × Value → H} {P : Program} {f : Func} {s : ChangeSpec} {apart fresh handsOn again : Bool} {W W' : World} {args : Array Value} {v : Value} {ds gs : List (DataW H)} {before pa pv : List MemPlace}
    (hW : DataW.Whole enc P f.params.toList s.vars apart W args.toList ds gs before)
    (hres : ∀ (b : Nat) (sp : Nat → Bool) (hd : Bool), DataW.TrodAll enc P W' b sp hd f.resultTypes.toList (v.resultList f.resultTypes.size) (s.fn H (ds ++ gs)).results [])
    (hargs : ∀ sp : Nat → Bool, (∀ p ∈ before, sp p.block = true) → DataW.TrodAll enc P W' 0 sp true f.params.toList args.toList (s.fn H (ds ++ gs)).args pa)
    (hvars : ∀ sp : Nat → Bool, (∀ p ∈ before, sp p.block = true) → DataW.TrodVars enc P W' sp s.vars (s.fn H (ds ++ gs)).vars pv)
    (hps : before = pa ++ pv) (hB : Below W.heap.size W W')
    (hok : ∀ (j : Nat) (t : TypeId) (r : Value), f.resultTypes[j]? = some t → (v.resultList f.resultTypes.size)[j]? = some r → Value.okWide P W' .any 0 t r) :
    s.post enc P f apart fresh handsOn again W args v W' := by
  have hold : ∀ p ∈ before, (fun b => decide (b < W.heap.size)) p.block = true := fun p hp => by simpa using hW.lt p hp
  refine ⟨ds, gs, before, [], pa, pv, hW, hres _ _ _, hargs _ hold, hvars _ hold, World.keptBut_mono (fun p hp => ⟨hp, ?_⟩) (hB.frame _), fun _ => ?_⟩
  · rw [hps, List.mem_append] at hp
    exact Or.inr hp
  · have hlt := hW.lt
    obtain ⟨_, _, _, _, _, hz, hn⟩ := hW
    refine ⟨hok, _, _, ([] ++ pa) ++ pv, ⟨[] ++ pa, pv, trodAll_append (hargs _ (fun _ _ => rfl)) (hres _ _ _), hvars _ (fun _ _ => rfl), rfl, ?_, ?_⟩, ?_⟩
    · intro b off hp
      have hb : MemPlace.cell b off ∈ before := by rw [hps]; simpa using hp
      rw [hB.frozen (hlt _ hb)]
      exact hz b off hb
    · intro ha
      have := hn ha
      rw [hps] at this
      simpa using this
    · intro p hp _
      rw [hps]
      simpa using hp
end Go.Sy
end
