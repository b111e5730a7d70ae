/- Texts of one library, in one file. -/
import Derived.Test.YtlmenjenkpnacaaSyK
set_option linter.unusedVariables false
set_option linter.unusedSimpArgs false

section
namespace Go.Sy
open Go Go.RowKit

/-! ### calls that are known by heart: many templates of one function, looked up by a number in the state -/
section
variable {P : Program} {G : Type} {O : Orac} {I : In G}
/-- The third number behind the first argument (a loom's steps). -/
def keyC (args : List SV) (hp : Heap) : Option Nat := match args with
  | .ptr b _ :: _ => match hget b hp with
    | some (.cells (_ :: _ :: .int _ (.lit (.ofNat n)) :: _) _ _) => some n
    | _ => none
  | _ => none
def memoK (P : Program) (key : List SV → Heap → Option Nat) (ms : List (Nat × Tmpl × List CLeaf)) (lo : Nat) (args : List SV) (pc : PC) (hp : Heap) : Option (List CLeaf) :=
  match key args hp with
  | none => none
  | some n => match lkp n ms with
    | none => none
    | some m => match sumK P m.1 m.2 lo args pc hp with
      | none => none
      | some cs => if cs.any (·.bad) then none else some cs
theorem memo_ok (pr : PR P) {O0 : Orac} (oo : OOK P O0 I) {f : Nat} {key : List SV → Heap → Option Nat} {ms : List (Nat × Tmpl × List CLeaf)}
    (h : ∀ x ∈ ms, runX P O0 f x.2.1.args x.2.1.pc x.2.1.hp = some x.2.2) {O' : Orac} (oo' : OOK P O' I) : OOK P (O'.withCallF f (memoK P key ms)) I := by
  refine withCallF_ok oo' (withCall_ok oo' ?_)
  intro lo args pc hp cs hk
  unfold memoK at hk
  split at hk
  · cases hk
  · split at hk
    · cases hk
    · rename_i n hn m hm
      split at hk
      · cases hk
      rename_i cs' hs
      split at hk
      · cases hk
      cases hk
      have := (sum_ok pr oo (h _ (lkp_mem hm)) oo').call (f := f) (lo := lo) (args := args) (pc := pc) (hp := hp) (cs := cs)
      refine this ?_
      show (if Nat.beq f f = true then some (sumK P m.1 m.2 lo args pc hp) else _) = _
      rw [if_pos (Nat.beq_refl f), hs]
end
end Go.Sy
end

section
namespace Go.Sy
open Go Go.RowKit

def regsD : Code → List (Nat × Array Oper)
  | .region id ops true => [(id, ops)]
  | .seq a b => regsD a ++ regsD b
  | .block _ a => regsD a
  | .loop a => regsD a
  | .cond _ a b => regsD a ++ regsD b
  | _ => []
def chkF (P : Program) (T : List (Nat × Nat)) (f : Nat) : Bool := match P.funcs[f]? with
  | none => true
  | some fn => match fn.body with
    | none => true
    | some c => (regsD c).all fun r => match lkp r.1 T with
      | none => true
      | some n => Region.lexTailB .any r.2 n
def tailOf (tab : List (Nat × List (Nat × Nat))) (f rid : Nat) : Option Nat := match lkp f tab with
  | none => none
  | some T => lkp rid T
def ordOf (tab : List (Nat × List (Nat × OT))) (f rid : Nat) : Option OT := match lkp f tab with
  | none => none
  | some T => lkp rid T
def chkO (P : Program) (T : List (Nat × OT)) (f : Nat) : Bool := match P.funcs[f]? with
  | none => true
  | some fn => match fn.body with
    | none => true
    | some c => (regsD c).all fun r => match lkp r.1 T with
      | none => true
      | some l => ordOK r.2 l
def Orac.withTail (O : Orac) (tab : List (Nat × List (Nat × Nat))) : Orac := { O with tail := tailOf tab }
def Orac.withOrder (O : Orac) (tab : List (Nat × List (Nat × OT))) : Orac := { O with order := ordOf tab }

theorem regsD_part {x c : Code} (h : Part x c) : ∀ r ∈ regsD x, r ∈ regsD c := by
  induction h with
  | refl c => exact fun _ h => h
  | seqL _ ih => exact fun r hr => ih r (by simp only [regsD]; exact List.mem_append_left _ hr)
  | seqR _ ih => exact fun r hr => ih r (by simp only [regsD]; exact List.mem_append_right _ hr)
  | block _ ih => exact fun r hr => ih r (by simpa only [regsD] using hr)
  | loop _ ih => exact fun r hr => ih r (by simpa only [regsD] using hr)
  | condL _ ih => exact fun r hr => ih r (by simp only [regsD]; exact List.mem_append_left _ hr)
  | condR _ ih => exact fun r hr => ih r (by simp only [regsD]; exact List.mem_append_right _ hr)

theorem withTail_ok {P : Program} {G : Type} {O : Orac} {I : In G} (oo : OOK P O I) {tab : List (Nat × List (Nat × Nat))} (h : ∀ x ∈ tab, chkF P x.2 x.1 = true) : OOK P (O.withTail tab) I where
  call := oo.call
  loop := oo.loop
  op := oo.op
  order := oo.order
  tail := by
    intro f rid n ops hp ht
    obtain ⟨fn, body, h1, h2, h3⟩ := hp
    unfold Orac.withTail tailOf at ht
    simp only at ht
    split at ht
    · cases ht
    rename_i T hT
    have hc := h _ (lkp_mem hT)
    unfold chkF at hc
    simp only [h1, h2] at hc
    have := List.all_eq_true.1 hc (rid, ops) (regsD_part h3 _ (by simp [regsD]))
    simp only [ht] at this
    exact this
theorem withOrder_ok {P : Program} {G : Type} {O : Orac} {I : In G} (oo : OOK P O I) {tab : List (Nat × List (Nat × OT))} (h : ∀ x ∈ tab, chkO P x.2 x.1 = true) : OOK P (O.withOrder tab) I where
  call := oo.call
  loop := oo.loop
  op := oo.op
  tail := oo.tail
  order := by
    intro f rid l ops hp ht
    obtain ⟨fn, body, h1, h2, h3⟩ := hp
    unfold Orac.withOrder ordOf at ht
    simp only at ht
    split at ht
    · cases ht
    rename_i T hT
    have hc := h _ (lkp_mem hT)
    unfold chkO at hc
    simp only [h1, h2] at hc
    have := List.all_eq_true.1 hc (rid, ops) (regsD_part h3 _ (by simp [regsD]))
    simp only [ht] at this
    exact this
end Go.Sy
end

section
namespace Go.Sy
open Go Go.RowKit

/-- what is known of s, if it is one of the powers 2 .. 256 -/
def powsB (s : SI) : SB := .or (.eq s (.lit 2)) (.or (.eq s (.lit 4)) (.or (.eq s (.lit 8)) (.or (.eq s (.lit 16)) (.or (.eq s (.lit 32)) (.or (.eq s (.lit 64)) (.or (.eq s (.lit 128)) (.eq s (.lit 256))))))))
def bndsB : SB → PC
  | .or (.eq s (.lit n)) r => if SB.beq (.or (.eq s (.lit n)) r) (powsB s) then [(.lt s (.lit 2), false), (.lt (.lit 256) s, false)] else []
  | _ => []
/-- the ways in which a condition is as it is said -/
def splitB : SB → Bool → List PC
  | .and a b, true => (splitB a true).flatMap fun p => (splitB b true).map fun q => q ++ p
  | .and a b, false => splitB b false ++ (splitB a false).flatMap fun p => (splitB b true).map fun q => p ++ q
  | .not a, v => splitB a (!v)
  | .or a b, true => [(.or a b, true) :: bndsB (.or a b)]
  | c, v => [[(c, v)]]
def splitP : PC → List PC
  | [] => [[]]
  | (c, v) :: r => (splitB c v).flatMap fun p => (splitP r).map fun q => p ++ q
def splitC (c : CLeaf) : List CLeaf := (splitP c.pc).map fun p => { c with pc := p }
def splitL (l : List CLeaf) : List CLeaf := l.flatMap splitC

section
variable {G : Type} {ν : Env G}
theorem bndsB_den {c : SB} (h : c.den ν = true) : pcDen ν (bndsB c) := by
  unfold bndsB
  split
  · rename_i s n r
    split
    · rename_i hb
      have hb := SB.beq_eq hb
      rw [hb] at h
      simp only [powsB, SB.den, Bool.or_eq_true, beq_iff_eq] at h
      simp only [SI.den] at h
      refine pcDen_cons ?_ (pcDen_one ?_)
      · simp only [SB.den]; simp only [SI.den]; exact decide_eq_false (by omega)
      · simp only [SB.den]; simp only [SI.den]; exact decide_eq_false (by omega)
    · exact pcDen_nil _
  · exact pcDen_nil _
theorem splitB_den : ∀ (c : SB) (v : Bool), c.den ν = v → ∃ p ∈ splitB c v, pcDen ν p := by
  intro c
  induction c with
  | and a b iha ihb =>
    intro v h
    simp only [SB.den] at h
    cases v with
    | true =>
      simp only [Bool.and_eq_true] at h
      obtain ⟨p, hp, hpd⟩ := iha true h.1
      obtain ⟨q, hq, hqd⟩ := ihb true h.2
      exact ⟨q ++ p, List.mem_flatMap.2 ⟨p, hp, List.mem_map.2 ⟨q, hq, rfl⟩⟩, pcDen_append hqd hpd⟩
    | false =>
      cases hb : b.den ν with
      | false =>
        obtain ⟨p, hp, hpd⟩ := ihb false hb
        exact ⟨p, List.mem_append_left _ hp, hpd⟩
      | true =>
        rw [hb, Bool.and_true] at h
        obtain ⟨p, hp, hpd⟩ := iha false h
        obtain ⟨q, hq, hqd⟩ := ihb true hb
        exact ⟨p ++ q, List.mem_append_right _ (List.mem_flatMap.2 ⟨p, hp, List.mem_map.2 ⟨q, hq, rfl⟩⟩), pcDen_append hpd hqd⟩
  | not a ih =>
    intro v h
    simp only [SB.den] at h
    obtain ⟨p, hp, hpd⟩ := ih (!v) (by rw [← h]; simp)
    exact ⟨p, by cases v <;> exact hp, hpd⟩
  | or a b _ _ =>
    intro v h
    cases v with
    | true => exact ⟨_, List.mem_singleton.2 rfl, pcDen_cons h (bndsB_den h)⟩
    | false => exact ⟨_, List.mem_singleton.2 rfl, pcDen_one h⟩
  | _ => intro v h; exact ⟨_, List.mem_singleton.2 rfl, pcDen_one h⟩
theorem splitP_den : ∀ (l : PC), pcDen ν l → ∃ p ∈ splitP l, pcDen ν p
  | [], _ => ⟨[], by simp [splitP], pcDen_nil _⟩
  | (c, v) :: r, h => by
    obtain ⟨p, hp, hpd⟩ := splitB_den c v (h c v (List.mem_cons_self ..))
    obtain ⟨q, hq, hqd⟩ := splitP_den r (fun d b hm => h d b (List.mem_cons_of_mem _ hm))
    exact ⟨p ++ q, List.mem_flatMap.2 ⟨p, hp, List.mem_map.2 ⟨q, hq, rfl⟩⟩, pcDen_append hpd hqd⟩
end
/-- Said in pieces. -/
theorem splitL_ok {G : Type} {I : In G} {ou0 ou : List CLeaf} (h : ∀ c ∈ ou0, ∀ ν : Env G, ν.I = I → pcDen ν c.pc → ∃ c' ∈ ou, c'.bad = c.bad ∧ (∀ ρ, c'.v.den ν ρ = c.v.den ν ρ) ∧ c'.hp.Sublist c.hp ∧ pcDen ν c'.pc) :
    ∀ c ∈ ou0, ∀ ν : Env G, ν.I = I → pcDen ν c.pc → ∃ c' ∈ splitL ou, c'.bad = c.bad ∧ (∀ ρ, c'.v.den ν ρ = c.v.den ν ρ) ∧ c'.hp.Sublist c.hp ∧ pcDen ν c'.pc := by
  intro c hc ν hI hp
  obtain ⟨c1, m1, e1, e2, e3, e4⟩ := h c hc ν hI hp
  obtain ⟨p, hp2, hpd⟩ := splitP_den c1.pc e4
  exact ⟨{ c1 with pc := p }, List.mem_flatMap.2 ⟨c1, m1, List.mem_map.2 ⟨p, hp2, rfl⟩⟩, e1, e2, e3, hpd⟩
end Go.Sy
end
