import Derived.Test.YtjcphbcjnjeccaaSy12
import Derived.Below
import Derived.ProofKit
import Derived.OpenShut
set_option linter.unusedVariables false
set_option linter.unusedSimpArgs false
namespace Go.Sy
open Go Go.RowKit Go.ChangeShapes Go.WideShapes Go.ChangeAt

theorem pcDen_cons_iff {G : Type} {ν : Env G} {c : SB} {b : Bool} {q : PC} : pcDen ν ((c, b) :: q) ↔ c.den ν = b ∧ pcDen ν q :=
  ⟨fun h => ⟨h c b (by simp), fun d x hm => h d x (by simp [hm])⟩, fun h => pcDen_cons h.1 h.2⟩
theorem pcDen_nil_iff {G : Type} {ν : Env G} : pcDen ν [] ↔ True := ⟨fun _ => trivial, fun _ => pcDen_nil ν⟩

/-- The base of a law: nothing old may turn. -/
def baseOf (w : World) : Base := ⟨w, fun _ => False⟩
theorem baseOf_own (w : World) (k : Nat) : (baseOf w).own k ↔ w.heap.size ≤ k := by simp [baseOf, Base.own]

theorem HW.below {G : Type} {ν : Env G} {ρ : Nat → Nat} {hp : Heap} {w w' : World} (h : HW (baseOf w) ν ρ hp w') : Below w.heap.size w w' :=
  ⟨h.os, h.tape, h.output, h.size, fun k hk => h.kept k (by rw [baseOf_own]; omega)⟩

/-- A law, by the executor. -/
theorem runX_law {P : Program} {G : Type} {O : Orac} {I : In G} (pr : PR P) (oo : OOK P O I) {f : Nat} {args : List SV} {pc : PC} {hp : Heap} {cs : List CLeaf} (h : runX P O f args pc hp = some cs) (w : World) (ν : Env G) (ρ : Nat → Nat) (hI : ν.I = I)
    (hpc : pcDen ν pc) (hw : HW (baseOf w) ν ρ hp w)
    (hc : ∀ c ∈ cs, ∀ ν' ρ', Agree LO (LO + LO) ν ν' ρ ρ' → pcDen ν' c.pc → c.bad = false ∧ c.v.den ν' ρ' = .bool true) : Calls P f (denL ν ρ args).toArray w fun e w' => e = .returned (.bool true) ∧ Below w.heap.size w w' :=
  runX_calls pr oo h (baseOf w) ν ρ w _ hI hpc hw fun c hm ν' ρ' w' hag hp' => by
    obtain ⟨h1, h2⟩ := hc c hm ν' ρ' hag hp'
    exact ⟨h1, fun hw' => ⟨by rw [h2], hw'.below⟩⟩

/-- The row's 'post', where nothing old has turned. -/
theorem post_of_below {H : Type} {enc : TypeId × Value → H} {P : Program} {f : Func} {s : ChangeSpec} {apart fresh handsOn again : Bool} {W W' : World} {args : Array Value} {v : Value} {ds gs : List (DataW H)} {before pa pv : List MemPlace}
    (hW : DataW.Whole enc P f.params.toList s.vars apart W args.toList ds gs before)
    (hres : ∀ (b : Nat) (sp : Nat → Bool) (hd : Bool), DataW.TrodAll enc P W' b sp hd f.resultTypes.toList (v.resultList f.resultTypes.size) (s.fn H (ds ++ gs)).results [])
    (hargs : ∀ sp : Nat → Bool, (∀ p ∈ before, sp p.block = true) → DataW.TrodAll enc P W' 0 sp true f.params.toList args.toList (s.fn H (ds ++ gs)).args pa)
    (hvars : ∀ sp : Nat → Bool, (∀ p ∈ before, sp p.block = true) → DataW.TrodVars enc P W' sp s.vars (s.fn H (ds ++ gs)).vars pv)
    (hps : before = pa ++ pv) (hB : Below W.heap.size W W')
    (hok : ∀ (j : Nat) (t : TypeId) (r : Value), f.resultTypes[j]? = some t → (v.resultList f.resultTypes.size)[j]? = some r → Value.okWide P W' .any 0 t r) :
    s.post enc P f apart fresh handsOn again W args v W' := by
  have hold : ∀ p ∈ before, (fun b => decide (b < W.heap.size)) p.block = true := fun p hp => by simpa using hW.lt p hp
  refine ⟨ds, gs, before, [], pa, pv, hW, hres _ _ _, hargs _ hold, hvars _ hold, World.keptBut_mono (fun p hp => ⟨hp, ?_⟩) (hB.frame _), fun _ => ?_⟩
  · rw [hps, List.mem_append] at hp
    exact Or.inr hp
  · have hlt := hW.lt
    obtain ⟨_, _, _, _, _, hz, hn⟩ := hW
    refine ⟨hok, _, _, ([] ++ pa) ++ pv, ⟨[] ++ pa, pv, trodAll_append (hargs _ (fun _ _ => rfl)) (hres _ _ _), hvars _ (fun _ _ => rfl), rfl, ?_, ?_⟩, ?_⟩
    · intro b off hp
      have hb : MemPlace.cell b off ∈ before := by rw [hps]; simpa using hp
      rw [hB.frozen (hlt _ hb)]
      exact hz b off hb
    · intro ha
      have := hn ha
      rw [hps] at this
      simpa using this
    · intro p hp _
      rw [hps]
      simpa using hp
end Go.Sy
