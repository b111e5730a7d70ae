import Derived.Test.YtjcphbcjnjeccaaSy17
set_option linter.unusedVariables false
set_option linter.unusedSimpArgs false
namespace Go.Sy
open Go Go.RowKit

/-! ### contracts as oracles -/
section
variable {P : Program} {G : Type} {O : Orac} {I : In G}

/-- Of function g: these leaves. -/
def Orac.withCall (O : Orac) (g : Nat) (k : Nat → List SV → PC → Heap → Option (List CLeaf)) : Orac :=
  { O with call := fun f lo args pc hp => if Nat.beq f g then some (k lo args pc hp) else O.call f lo args pc hp }

theorem withCall_ok (oo : OOK P O I) {g : Nat} {k : Nat → List SV → PC → Heap → Option (List CLeaf)}
    (h : ∀ {lo : Nat} {args : List SV} {pc : PC} {hp : Heap} {cs : List CLeaf}, k lo args pc hp = some cs → ∀ (sz : Nat), 64 ≤ sz → ∀ (B : Base) (ν : Env G) (ρ : Nat → Nat) (w : World) (R : Ending → World → Prop), ν.I = I → pcDen ν pc → HW B ν ρ hp w →
      (∀ c ∈ cs, ∀ ν' ρ' w', Agree lo (lo + sz) ν ν' ρ ρ' → pcDen ν' c.pc → c.bad = false ∧ (HW B ν' ρ' c.hp w' → R (.returned (c.v.den ν' ρ')) w')) → Calls P g (denL ν ρ args).toArray w R) : OOK P (O.withCall g k) I where
  call := by
    intro f lo args pc hp cs ho
    unfold Orac.withCall at ho
    simp only at ho
    split at ho
    · rename_i hb
      have hb := Nat.eq_of_beq_eq_true hb
      subst hb
      exact h (Option.some.inj ho)
    · exact oo.call ho
  loop := oo.loop
  op := oo.op

/-- A call that changes nothing old, and hands back what is said. -/
theorem pure_call {g : Nat} {args : List SV} {v : SV} {hp : Heap} {lo sz : Nat} {B : Base} {ν : Env G} {ρ : Nat → Nat} {w : World} {R : Ending → World → Prop} {pc : PC} {cs : List CLeaf} (hpc : pcDen ν pc) (hw : HW B ν ρ hp w)
    (hc : ∀ c ∈ cs, ∀ ν' ρ' w', Agree lo (lo + sz) ν ν' ρ ρ' → pcDen ν' c.pc → c.bad = false ∧ (HW B ν' ρ' c.hp w' → R (.returned (c.v.den ν' ρ')) w')) (hm : (⟨false, v, pc, hp⟩ : CLeaf) ∈ cs)
    (h : Calls P g (denL ν ρ args).toArray w fun e w' => e = .returned (v.den ν ρ) ∧ Below w.heap.size w w') : Calls P g (denL ν ρ args).toArray w R :=
  h.mono fun e w' ⟨he, hb⟩ => by
    subst he
    exact (hc _ hm ν ρ w' (Agree.refl _ _ _ _) hpc).2 (hw.later hb)

/-- All loops in a piece of code. -/
def loops : Code → List Code
  | .seq a b => loops a ++ loops b
  | .cond _ a b => loops a ++ loops b
  | .block _ a => loops a
  | .loop a => a :: loops a
  | _ => []

theorem loops_part {a c : Code} (h : Part a c) : ∀ x ∈ loops a, x ∈ loops c := by
  induction h with
  | refl => exact fun x hx => hx
  | seqL _ ih => exact fun x hx => ih x (by simp [loops, hx])
  | seqR _ ih => exact fun x hx => ih x (by simp [loops, hx])
  | block _ ih => exact fun x hx => ih x (by simp [loops, hx])
  | loop _ ih => exact fun x hx => ih x (by simp [loops, hx])
  | condL _ ih => exact fun x hx => ih x (by simp [loops, hx])
  | condR _ ih => exact fun x hx => ih x (by simp [loops, hx])

def bodyOf (P : Program) (f : Nat) : Code := match P.funcs[f]? with | some fn => fn.body.getD .skip | none => .skip
/-- The loops of a function at a site. -/
def loopsAt (P : Program) (f s : Nat) : List Code := (loops (bodyOf P f)).filter fun b => Nat.beq (site b) s
def loopAt (P : Program) (f s : Nat) : Code := (loopsAt P f s).headD .skip

theorem loop_is {f s : Nat} {a : Code} (h1 : (loopsAt P f s).length = 1) (hp : PartOf P f (.loop a)) (hs : site a = s) : a = loopAt P f s := by
  obtain ⟨fn, body, e1, e2, hpart⟩ := hp
  have hb : bodyOf P f = body := by simp [bodyOf, e1, e2]
  have hm : a ∈ loopsAt P f s := by
    unfold loopsAt
    rw [hb]
    exact List.mem_filter.2 ⟨loops_part hpart a (by simp [loops]), by rw [hs]; exact Nat.beq_refl s⟩
  unfold loopAt
  match hl : loopsAt P f s, h1, hm with
  | [x], _, hm => simpa using hm

theorem partOf_loopBody {f : Nat} {a : Code} (h : PartOf P f (.loop a)) : PartOf P f a := partOf_loop h

/-- Of the loop at site s of function g, entered with this frame and this heap: these leaves. -/
def Orac.withLoop (O : Orac) (g s nm0 : Nat) (fr0 : List SV) (hp0 : Heap) (mk : PC → List Leaf) : Orac :=
  { O with loop := fun f t nm fr pc hp => if Nat.beq f g && Nat.beq t s then some (if Nat.beq nm nm0 && beqL fr fr0 && leafBeq.hB hp hp0 then some (mk pc) else none) else O.loop f t nm fr pc hp }

theorem withLoop_ok (oo : OOK P O I) {g s nm0 : Nat} {fr0 : List SV} {hp0 : Heap} {mk : PC → List Leaf} (h1 : (loopsAt P g s).length = 1)
    (h : ∀ (pc : PC) (sub : Nat), 64 ≤ sub → PartOf P g (loopAt P g s) → ∀ (B : Base) (ν : Env G) (ρ : Nat → Nat) (Q : Exit → Act → World → Prop), NP Q → ν.I = I →
      (∀ L ∈ mk pc, ∀ a w, SatL nm0 (nm0 + sub) ν ρ B L a w → LQ Q L.ex a w) → ∀ act w, pcDen ν pc → FR ν ρ fr0 act → HW B ν ρ hp0 w → (Code.loop (loopAt P g s)).wp P Q act w) : OOK P (O.withLoop g s nm0 fr0 hp0 mk) I where
  call := oo.call
  op := oo.op
  loop := by
    intro f nm a fr pc hp ls hpart ho
    unfold Orac.withLoop at ho
    simp only at ho
    split at ho
    · rename_i hb
      simp only [Bool.and_eq_true] at hb
      have hb1 := Nat.eq_of_beq_eq_true hb.1
      have hb2 := Nat.eq_of_beq_eq_true hb.2
      subst hb1
      split at ho
      · rename_i hc
        simp only [Bool.and_eq_true] at hc
        have c1 := Nat.eq_of_beq_eq_true hc.1.1
        have c2 := beqL_eq hc.1.2
        have c3 := hB_eq hc.2
        subst c1 c2 c3
        cases ho
        have ha := loop_is h1 hpart hb2
        subst ha
        intro sub hsub B ν ρ Q hQ hI hl act w hpc hf hw
        exact h pc sub hsub (partOf_loop hpart) B ν ρ Q hQ hI hl act w hpc hf hw
      · cases ho
    · exact oo.loop hpart ho

/-! ### one frame from another -/
/-- The slots that part, but for dead ones. -/
def diffX (ok : SV → Bool) : List SV → List SV → Option (List (SV × SV))
  | [], [] => some []
  | u :: us, v :: vs => match diffX ok us vs with
    | none => none
    | some l => if v.isDead then some l else if u.beq v && ok v then some l else if u.isDead then none else some ((u, v) :: l)
  | _, _ => none

theorem diffX_den {ok : SV → Bool} {ν ν' : Env G} {ρ ρ' : Nat → Nat} (hok : ∀ v, ok v = true → v.den ν ρ = v.den ν' ρ') : ∀ {us vs : List SV} {l : List (SV × SV)}, diffX ok us vs = some l → (∀ x ∈ l, x.1.den ν ρ = x.2.den ν' ρ') →
    us.length = vs.length ∧ ∀ (t : Nat) (v : SV), vs[t]? = some v → v.isDead = false → ∃ u, us[t]? = some u ∧ u.isDead = false ∧ u.den ν ρ = v.den ν' ρ'
  | [], [], l, _, _ => ⟨rfl, fun t v h => by simp at h⟩
  | [], _ :: _, l, h, _ => by simp [diffX] at h
  | _ :: _, [], l, h, _ => by simp [diffX] at h
  | u :: us, v :: vs, l, h, hl => by
    unfold diffX at h
    split at h
    · cases h
    · rename_i l0 h0
      have key : (∀ x ∈ l0, x.1.den ν ρ = x.2.den ν' ρ') → (v.isDead = false → u.isDead = false ∧ u.den ν ρ = v.den ν' ρ') → (u :: us).length = (v :: vs).length ∧ ∀ (t : Nat) (x : SV), (v :: vs)[t]? = some x → x.isDead = false → ∃ y, (u :: us)[t]? = some y ∧ y.isDead = false ∧ y.den ν ρ = x.den ν' ρ' := by
        intro hl0 hv
        obtain ⟨e1, e2⟩ := diffX_den hok h0 hl0
        refine ⟨by simp [e1], fun t x hx hd => ?_⟩
        cases t with
        | zero =>
          simp only [List.getElem?_cons_zero, Option.some.injEq] at hx
          subst hx
          exact ⟨u, rfl, hv hd⟩
        | succ t => simpa using e2 t x (by simpa using hx) hd
      split at h
      · rename_i hdead
        cases h
        exact key hl (fun hd => by rw [hdead] at hd; cases hd)
      · rename_i hdead
        split at h
        · rename_i hb
          simp only [Bool.and_eq_true] at hb
          cases h
          have hbe := SV.beq_eq hb.1
          subst hbe
          exact key hl (fun hd => ⟨hd, hok u hb.2⟩)
        · split at h
          · cases h
          · rename_i hud
            cases h
            exact key (fun x hx => hl x (by simp [hx])) (fun _ => ⟨by simpa using hud, hl (u, v) (by simp)⟩)

theorem FR.diff {ok : SV → Bool} {ν ν' : Env G} {ρ ρ' : Nat → Nat} (hok : ∀ v, ok v = true → v.den ν ρ = v.den ν' ρ') {us vs : List SV} {l : List (SV × SV)} (h : diffX ok us vs = some l) (hl : ∀ x ∈ l, x.1.den ν ρ = x.2.den ν' ρ') {act : Act} (hf : FR ν ρ us act) : FR ν' ρ' vs act := by
  obtain ⟨e1, e2⟩ := diffX_den hok h hl
  refine ⟨by rw [hf.size, e1], fun t v hv hd => ?_, hf.defers⟩
  obtain ⟨u, hu, hud, hden⟩ := e2 t v hv hd
  rw [hf.tmps t u hu hud, hden]
end
end Go.Sy
