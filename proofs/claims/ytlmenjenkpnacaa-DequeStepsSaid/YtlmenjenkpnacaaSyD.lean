/- Texts of one library, in one file. -/
import Derived.Test.YtlmenjenkpnacaaSyC
import Derived.JoinedOf
import Derived.Carry
import Derived.Lib.SmallJoins
import Derived.Deep.LoopGhost
import Derived.Test.YtlmenjenkpnacaaSyA
set_option linter.unusedVariables false
set_option linter.unusedSimpArgs false

section
namespace Go.Sy
open Go

/-! ### a row's closed facts, where the program's sign is long -/
theorem wordsSigns_word (r : List Char) : ∀ (w : List Char), w.all (fun c => !(c == Char.ofNat 32)) = true → wordsSigns (w ++ Char.ofNat 32 :: r) = w :: wordsSigns r
  | [], _ => by simp [wordsSigns]
  | c :: w, h => by
    simp only [List.all_cons, Bool.and_eq_true, Bool.not_eq_true', beq_eq_false_iff_ne] at h
    have ih := wordsSigns_word r w h.2
    rw [List.cons_append, wordsSigns, ih]
    exact h.1

def sgnA : List Char := List.map Char.ofNat [104, 97, 114, 110, 101, 115, 115]
def sgnC : List Char := List.map Char.ofNat [99, 117, 116]
/-- The sign: the harness's word, a sum, 'cut', the rest. -/
def signOf (b r : List Char) : List Char := sgnA ++ Char.ofNat 32 :: (b ++ Char.ofNat 32 :: (sgnC ++ Char.ofNat 32 :: r))

theorem words_of {P : Program} {b r : List Char} (h : P.initOrder = String.ofList (signOf b r)) (hb : b.all (fun c => !(c == Char.ofNat 32)) = true) (hs : isSumSigns b = true) : behindMainWord (wordsSigns P.initOrder.toList) = sgnC :: wordsSigns r := by
  rw [h, String.toList_ofList, signOf, wordsSigns_word _ sgnA (by decide +kernel), wordsSigns_word _ b hb, wordsSigns_word _ sgnC (by decide +kernel)]
  have h : ((sgnA == "harness".toList || sgnA == "ownmain".toList) && isSumSigns b) = true := by rw [hs]; decide +kernel
  simp only [behindMainWord, h, if_true]

theorem make_of {P : Program} {r : List (List Char)} (h : behindMainWord (wordsSigns P.initOrder.toList) = sgnC :: r) : P.make = some .cut := by
  unfold Program.make
  rw [h]
  dsimp only
  rw [if_neg (by decide +kernel), if_pos (by simp only [Bool.or_eq_true]; left; decide +kernel)]

theorem strip_cut (r : List (List Char)) : stripLifts liftWords (sgnC :: r) = ([], sgnC :: r) := by
  have h : ∀ o ∈ liftWords, (sgnC == o.toList) = false := by decide +kernel
  generalize liftWords = l at h
  induction l with
  | nil => rfl
  | cons o os ih =>
    unfold stripLifts
    rw [if_neg (by rw [h o (by simp)]; simp), ih (fun o' h' => h o' (by simp [h']))]

theorem headLifts_of {P : Program} {r : List (List Char)} (h : behindMainWord (wordsSigns P.initOrder.toList) = sgnC :: r) : P.headLifts = [] := by
  unfold Program.headLifts
  rw [h, strip_cut]
  simp

theorem liftsFinal_of {P : Program} {r : List (List Char)} (h : behindMainWord (wordsSigns P.initOrder.toList) = sgnC :: r) : P.liftsFinal = false := by
  unfold Program.liftsFinal
  rw [h, headLifts_of h]
  have h : (sgnC == "carried".toList) = false := by decide +kernel
  simp only [List.head?_cons, List.contains_nil, Bool.or_false]
  have h2 : (some sgnC == some "carried".toList) = false := by decide +kernel
  rw [h2, Bool.false_and]

theorem mayEnter_of {P : Program} {r : List (List Char)} (h : behindMainWord (wordsSigns P.initOrder.toList) = sgnC :: r) (h1 : P.laysLater = false) (h2 : P.bearsReflect = false) (h3 : P.doorFits [] = true) : P.mayEnter = true := by
  unfold Program.mayEnter
  rw [h]
  dsimp only
  rw [strip_cut]
  simp only [h1, h2, h3]
  simp
  exact Or.inr (by decide +kernel)

theorem headOf {P : Program} {r : List (List Char)} (h : behindMainWord (wordsSigns P.initOrder.toList) = sgnC :: r) {c : OpenClaim} (h1 : P.laysLater = false) (h2 : P.bearsReflect = false) (h3 : P.doorFits [] = true) (h4 : c.lifted = false) (h5 : c.make = .cut) :
    P.mayEnter = true ∧ c.lifted = P.liftsFinal ∧ P.make = some c.make :=
  ⟨mayEnter_of h h1 h2 h3, h4.trans (liftsFinal_of h).symm, by rw [make_of h, h5]⟩

/-- The facts of the program alone. -/
structure ProgFacts (P : Program) : Prop where
  laid : laidOutB P = true
  rowed : mapsRowed P = true
  stops : P.stops = []
  knobs : P.stopKnobs = []
  keys : P.plainKeys = true
  heard : P.stopsHeard = true
  enter : P.mayEnter = true
  final : P.liftsFinal = false
  make : P.make = some .cut

theorem joined_of {P : Program} {f : FuncId} {fn : Func} {s : ChangeSpec} {c : OpenClaim} (p : ProgFacts P)
    (a1 : (c.wf (OpenSpec.ofChange s) && fn.params.all (P.readableRec ·) && namedTie P c.named s.vars && s.vars.all (P.varReadable ·)) = true) (a2 : c.stops = [] ∧ c.knobs = [] ∧ c.lifted = false ∧ c.make = .cut ∧ c.plainKeys = true ∧ c.shortTexts = none)
    (b1 : c.inPlace = P.inPlace f) (b2 : c.unfollowed = P.unfollowed f) (b3 : c.recurses = P.recurses f) (b4 : c.named = P.varsNamed f)
    (d1 : ((fn.params.toList ++ s.plain.varTypes P).any (P.mapsRec ·) == c.maps && (fn.params.toList ++ s.plain.varTypes P).any (P.ifacesRec ·) == c.ifaces && P.mapsAmong fn.resultTypes.toList == c.mapsOut) = true)
    (d2 : ((fn.params.toList ++ s.plain.varTypes P).any (P.loopsFrom ·) == c.loops && (fn.params.toList ++ s.plain.varTypes P ++ fn.resultTypes.toList).any (P.wideKeysFrom ·) == c.wideKeys) = true)
    (d3 : (fn.resultTypes.all (fun t => P.readableRec t && decide (t < P.types.size)) && fn.resultTypes.toList.any (P.ifacesRec ·) == c.ifacesOut && fn.resultTypes.toList.any (P.loopsFrom ·) == c.loopsOut) = true)
    (d4 : c.kinds = (if c.domain.isEmpty then [] else fn.params.toList.map fun t => match P.underlying t with | some (.int k) => some k | _ => none) ∧ c.pinned = c.pinnedBy)
    (d5 : ((fn.params.toList ++ s.plain.varTypes P ++ fn.resultTypes.toList).any (P.veiledRec ·) == c.veiled && c.veiledFits P fn.params.toList (fn.params.toList ++ s.plain.varTypes P ++ fn.resultTypes.toList)) = true) : joinedFacts P f fn s c = true := by
  simp only [Bool.and_eq_true, beq_iff_eq] at a1 d1 d2 d3 d5
  simp only [joinedFacts, Bool.and_eq_true, beq_iff_eq]
  obtain ⟨a21, a22, a23, a24, a25, a26⟩ := a2
  simp only [a1, a21, a22, a23, a24, a25, a26, ← b1, ← b2, ← b3, ← b4, d1, d2, d3, d5, d4.1, d4.2, p.laid, p.rowed, p.stops, p.knobs, p.keys, p.heard, p.enter, p.final, p.make, and_self, true_and, and_true, Option.isNone_none]
  rfl
end Go.Sy
end

section
namespace Go.Sy
open Go Go.RowKit Go.ChangeShapes Go.WideShapes Go.ChangeAt

section
variable {H : Type} {enc : TypeId × Value → H} {P : Program}

/-- All arguments read as they did. -/
theorem trodAll_stays (hl : laidOutB P = true) {W W' : World} {sp : Nat → Bool} : ∀ {ts : List TypeId} {vs : List Value} {ds : List (DataW H)} {ps : List MemPlace}, (∀ t ∈ ts, P.readableRec t = true ∧ t < P.types.size) →
    DataW.TrodAll enc P W 0 (fun _ => true) true ts vs ds ps → (∀ p ∈ ps, W.sameAt W' p) → (∀ p ∈ ps, sp p.block = true) → DataW.TrodAll enc P W' 0 sp true ts vs ds ps
  | [], vs, ds, ps, _, h, _, _ => by
    obtain ⟨rfl, rfl, rfl⟩ := trodAll_nil h
    exact trodAll_mk0
  | t :: ts, vs, ds, ps, hr, h, hs, hb => by
    obtain ⟨v, vs', d, ds', p, q, rfl, rfl, rfl, h1, h2⟩ := trodAll_cons h
    exact trodAll_cons_mk (WideElems.Trod_stays hl (hr t (by simp)).1 (hr t (by simp)).2 h1 (fun x hx => hs x (by simp [hx])) (fun x hx => hb x (by simp [hx])))
      (trodAll_stays hl (fun t' ht => hr t' (by simp [ht])) h2 (fun x hx => hs x (by simp [hx])) (fun x hx => hb x (by simp [hx])))

theorem trodAll_length {W : World} {b : Nat} {sp : Nat → Bool} {hd : Bool} : ∀ {ts : List TypeId} {vs : List Value} {ds : List (DataW H)} {ps : List MemPlace}, DataW.TrodAll enc P W b sp hd ts vs ds ps → ds.length = ts.length
  | [], _, _, _, h => by obtain ⟨_, rfl, _⟩ := trodAll_nil h; rfl
  | t :: ts, _, _, _, h => by
    obtain ⟨v, vs', d, ds', p', q', _, rfl, _, _, h2⟩ := trodAll_cons h
    simp [trodAll_length h2]

/-- The lift of a law: of any parameters. -/
theorem law_lifted {C : Checked} (pf : ProgFacts C.prog) {os : Os} {f : FuncId} {fn : Func} {s : ChangeSpec} {conds : List PathCond} {tb : TypeId} (own : ownKnob C.prog.godebug = none) (started : os.Started) (noInit : C.prog.inits.idxOf? f = none) (hfn : C.prog.funcs[f]? = some fn)
    (witness : ∃ (w : World) (tape : Tape) (i : Input), w.os = os ∧ (w.forCall tape i).Shaped C.prog ∧ i.vars = [] ∧ Input.okWide C.prog (w.forCall tape i) .any w.heap.size f i ∧
      s.pre6 enc C.prog fn conds false (w.forCall tape i).memory i.args ∧ ({} : Assume).holds C.prog (lone (Frame.enter C.prog f i.args .normal) [] (w.forCall tape i)))
    (hvars : s.vars = []) (hspec : ∀ ds : List (DataW H), ds.length = fn.params.toList.length → s.fn H ds = { results := [.lit (.bool true)], args := ds })
    (hb : C.prog.underlying tb = some .bool) (hres : fn.resultTypes = #[tb]) (hps : fn.params.toList.all (fun t => C.prog.readableRec t && decide (t < C.prog.types.size)) = true)
    (walk : ∀ (W : World) (base : Nat) (args : Array Value) (ds : List (DataW H)) (p : List MemPlace), (∀ (j : Nat) t v, fn.params[j]? = some t → args[j]? = some v → Value.okWide C.prog W .any base t v) →
      DataW.TrodAll enc C.prog W 0 (fun _ => true) true fn.params.toList args.toList ds p → (∀ x ∈ p, x.block < W.heap.size) → Calls C.prog f args W fun e w' => e = .returned (.bool true) ∧ Below W.heap.size W w') :
    ReturnsInHanded {} C os f .any (s.pre6 enc C.prog fn conds false) (s.post enc C.prog fn false true false false) := by
  refine returnsInHanded_of_change (C := C) own started noInit hfn witness ?_
  intro W base args ds gs before hval hW _ _
  have hW' := hW
  have hlt := hW.lt
  obtain ⟨p, q, hA, hV, rfl, hfz, hnd⟩ := hW
  rw [hvars] at hV
  obtain ⟨rfl, rfl⟩ := trodVars_none hV
  have hlen : ds.length = fn.params.toList.length := trodAll_length hA
  refine (walk W base args ds p hval hA (fun x hx => hlt x (by simp [hx]))).mono fun e W' ⟨he, hg⟩ => ?_
  subst he
  have hsp := hspec ds hlen
  refine ⟨_, rfl, post_of_below (pa := p) (pv := []) hW' (fun b sp hd => ?_) (fun sp hsp' => ?_) (fun sp _ => ?_) rfl hg ?_⟩
  · simp only [List.append_nil, hsp, hres]
    exact trodAll_cons_mk (shut_bool hb _) trodAll_mk0
  · simp only [List.append_nil, hsp]
    refine trodAll_stays pf.laid (fun t ht => ?_) hA (fun x hx => hg.same (hlt x (by simp [hx]))) (fun x hx => hsp' x (by simp [hx]))
    have := List.all_eq_true.1 hps t ht
    simp only [Bool.and_eq_true, decide_eq_true_eq] at this
    exact this
  · rw [hvars, List.append_nil, hsp]; exact rfl
  · rw [show (#[tb] : Array TypeId) = #[tb] from rfl] at hres
    exact ok_one hres rfl (okWide_bool_mk hb _)
end
end Go.Sy
end

section
namespace Go.Sy
open Go Go.RowKit Go.ChangeShapes Go.WideShapes Go.ChangeAt

/-! ### leaves that say yes of themselves -/
def CLeaf.yes (c : CLeaf) : Bool := !c.bad && (match c.v with | .bool (.lit b) => b | _ => false)
/-- The leaves that do not. -/
def restOf : Option (List CLeaf) → Option (List (Bool × SV × PC))
  | some cs => some ((cs.filter fun c => !c.yes).map fun c => (c.bad, c.v, c.pc))
  | none => none

theorem law_rest {P : Program} {G : Type} {O : Orac} {I : In G} (pr : PR P) (oo : OOK P O I) {f : Nat} {args : List SV} {pc : PC} {hp : Heap} {l : List (Bool × SV × PC)} (h : restOf (runX P O f args pc hp) = some l) (w : World) (ν : Env G) (ρ : Nat → Nat) (hI : ν.I = I)
    (hpc : pcDen ν pc) (hw : HW (baseOf w) ν ρ hp w)
    (hc : ∀ c ∈ l, ∀ ν' ρ', Agree LO (LO + LO) ν ν' ρ ρ' → pcDen ν' c.2.2 → c.1 = false ∧ c.2.1.den ν' ρ' = .bool true) : Calls P f (denL ν ρ args).toArray w fun e w' => e = .returned (.bool true) ∧ Below w.heap.size w w' := by
  cases hr : runX P O f args pc hp with
  | none => rw [hr] at h; cases h
  | some cs =>
    rw [hr] at h
    simp only [restOf, Option.some.injEq] at h
    refine runX_law pr oo hr w ν ρ hI hpc hw fun c hm ν' ρ' hag hp' => ?_
    cases hy : c.yes with
    | true =>
      simp only [CLeaf.yes, Bool.and_eq_true, Bool.not_eq_true'] at hy
      refine ⟨hy.1, ?_⟩
      have h2 := hy.2
      split at h2
      · rename_i b hb; subst h2; rw [hb]; simp [SV.den, SB.den]
      · cases h2
    | false =>
      exact hc (c.bad, c.v, c.pc) (by rw [← h]; exact List.mem_map.2 ⟨c, List.mem_filter.2 ⟨hm, by simp [hy]⟩, rfl⟩) ν' ρ' hag hp'

theorem law_auto {P : Program} {G : Type} {O : Orac} {I : In G} (pr : PR P) (oo : OOK P O I) {f : Nat} {args : List SV} {pc : PC} {hp : Heap} (h : restOf (runX P O f args pc hp) = some []) (w : World) (ν : Env G) (ρ : Nat → Nat) (hI : ν.I = I)
    (hpc : pcDen ν pc) (hw : HW (baseOf w) ν ρ hp w) : Calls P f (denL ν ρ args).toArray w fun e w' => e = .returned (.bool true) ∧ Below w.heap.size w w' :=
  law_rest pr oo h w ν ρ hI hpc hw fun c hm => (List.not_mem_nil hm).elim

/-! ### arguments -/
theorem HW.addView {G : Type} {B : Base} {ν : Env G} {ρ : Nat → Nat} {hp : Heap} {w : World} (h : HW B ν ρ hp w) {n : Nat} {k : IntKind} {o : SI} {l : SL} (hn : n ∉ hp.map (·.1)) (hno : ¬ B.own (ρ n)) (h0 : 0 ≤ o.den ν)
    (hc : ∀ j x, (l.den ν)[j]? = some x → B.w0.cell? ⟨ρ n, (o.den ν).toNat + j, none⟩ = some (.int k x)) : HW B ν ρ ((n, .view k o l) :: hp) w := by
  obtain ⟨F, h1, h2, h3⟩ := h.foot
  refine ⟨h.os, h.tape, h.output, h.size, h.kept, by simp only [List.map_cons, List.nodup_cons]; exact ⟨hn, h.nd⟩, fun m => if m = n then fun _ => False else F m, fun m b hm => ?_, fun m b j hm hj => ?_, fun m b m' b' j hm hm' hj hj' => ?_⟩
  · rcases List.mem_cons.1 hm with hm | hm
    · cases hm
      simp only [if_true, BlkDen]
      exact ⟨fun _ hf => hf, hno, h0, hc⟩
    · have : m ≠ n := fun e => hn (List.mem_map.2 ⟨_, hm, e⟩)
      simp only [this, if_false]
      exact h1 m b hm
  · rcases List.mem_cons.1 hm with hm | hm
    · cases hm; simp at hj
    · have : m ≠ n := fun e => hn (List.mem_map.2 ⟨_, hm, e⟩)
      simp only [this, if_false] at hj
      exact h2 m b j hm hj
  · rcases List.mem_cons.1 hm with hm | hm
    · cases hm; simp at hj
    · rcases List.mem_cons.1 hm' with hm' | hm'
      · cases hm'; simp at hj'
      · have e1 : m ≠ n := fun e => hn (List.mem_map.2 ⟨_, hm, e⟩)
        have e2 : m' ≠ n := fun e => hn (List.mem_map.2 ⟨_, hm', e⟩)
        simp only [e1, e2, if_false] at hj hj'
        exact h3 m b m' b' j hm hm' hj hj'

section
variable {H : Type} {enc : TypeId × Value → H} {P : Program} {W : World}

/-- A slice of integers that came in: nil; empty, of whatever address; a row's part. -/
theorem arg_ints {t e : TypeId} {k : IntKind} (ht : P.underlying t = some (.slice e)) (he : P.underlying e = some (.int k)) (hc : P.cellsOf e = 1) {r : Reach} {b0 : Nat} {v : Value} {d : DataW H} {ps : List MemPlace} (hok : Value.okWide P W r b0 t v)
    (h : DataW.Trod enc P W 0 (fun _ => true) true t v d ps) :
    v = .slice none 0 0 ∨ (∃ a, v = .slice (some a) 0 0) ∨ ∃ (g o cap : Nat) (xs : List Int), v = .slice (some ⟨g, o, none⟩) xs.length cap ∧ g < W.heap.size ∧ xs.length ≤ cap ∧ cap ≤ maxLen ∧
      (∀ j x, xs[j]? = some x → W.cell? ⟨g, o + j, none⟩ = some (.int k x)) ∧ ∀ x ∈ xs, (Lit.int k x).wf = true := by
  obtain ⟨a0, l0, c0, rfl⟩ := okWide_slice ht hok
  obtain ⟨fuel, hf⟩ := h
  rcases open_ints ht he hc hf with ⟨hcs, _⟩ | ⟨a, len, cap, zs, hcs, _, hle, hmax, hlen, _, hcell, hwf⟩
  · left; simpa [Value.cells] using hcs
  · right
    simp only [Value.cells, List.cons.injEq, Value.slice.injEq, and_true] at hcs
    obtain ⟨rfl, rfl, rfl⟩ := hcs
    simp only [if_true] at hlen
    rcases Nat.eq_zero_or_pos c0 with h0 | h0
    · left
      have : l0 = 0 := by omega
      subst h0 this
      exact ⟨a, rfl⟩
    · right
      have hc0 := hcell 0 (by omega)
      have hsp : a.spot = none := World.cell?_spot (a := a) (by simpa [Addr.add] using hc0)
      obtain ⟨g, o, sp⟩ := a
      simp only at hsp
      subst hsp
      have hl : (zs.take l0).length = l0 := by rw [List.length_take]; omega
      refine ⟨g, o, c0, zs.take l0, by rw [hl], ?_, by omega, hmax, fun j x hx => ?_, fun x hx => hwf x (List.mem_of_mem_take hx)⟩
      · exact World.block_lt_of_cell? W ⟨g, o, none⟩ (by simpa [Addr.add] using hc0)
      · rw [List.getElem?_take] at hx
        split at hx
        · rename_i hj
          have hj2 : j < zs.length := (List.getElem?_eq_some_iff.1 hx).1
          have := hcell j hj2
          rw [add_none] at this
          rw [this, List.getD_eq_getElem?_getD, hx]
          rfl
        · cases hx
end
end Go.Sy
end

section
namespace Go.Sy
open Go Go.RowKit

theorem Agree.symm {G : Type} {lo hi : Nat} {ν ν' : Env G} {ρ ρ' : Nat → Nat} (h : Agree lo hi ν ν' ρ ρ') : Agree lo hi ν' ν ρ' ρ :=
  ⟨h.I.symm, fun n hn => (h.g n hn).symm, fun n hn => (h.i n hn).symm, fun n hn => (h.b n hn).symm, fun n hn => (h.v n hn).symm, fun n hn => (h.l n hn).symm, fun n hn => (h.e n hn).symm, fun n hn => (h.r n hn).symm⟩

theorem HW.agree {G : Type} {B : Base} {lo hi : Nat} {ν ν' : Env G} {ρ ρ' : Nat → Nat} {hp : Heap} {w : World} (hag : Agree lo hi ν ν' ρ ρ') (hv : hav lo hi hp = true) (h : HW B ν ρ hp w) : HW B ν' ρ' hp w :=
  ⟨h.os, h.tape, h.output, h.size, h.kept, h.nd, by
    obtain ⟨F, h1, h2, h3⟩ := h.foot
    exact ⟨F, fun n b hm => BlkDen.agree hag (hav_mem hv n b hm).2 (hav_mem hv n b hm).1 (h1 n b hm), h2, h3⟩⟩

/-- What is said of a world is true of one that has new blocks alone. -/
theorem HW.later {G : Type} {B : Base} {ν : Env G} {ρ : Nat → Nat} {hp : Heap} {w w' : World} (h : HW B ν ρ hp w) (hb : Below w.heap.size w w') : HW B ν ρ hp w' := by
  obtain ⟨F, h1, h2, h3⟩ := h.foot
  refine ⟨hb.os.trans h.os, hb.tape.trans h.tape, hb.output.trans h.output, Nat.le_trans h.size hb.size, fun k hk => ?_, h.nd, F, fun n b hm => BlkDen.world (fun k hk => hb.block k (BlkDen.lt (h1 n b hm) hk)) (h1 n b hm), h2, h3⟩
  have hlt : k < w.heap.size := by
    rcases Nat.lt_or_ge k w.heap.size with hl | hl
    · exact hl
    · exact absurd (.inl (Nat.le_trans h.size hl)) hk
  rw [hb.block k hlt]
  exact h.kept k hk

section
variable {P : Program} {G : Type} {O : Orac} {I : In G}

def NormalTo (K : Act → World → Prop) (Q : Exit → Act → World → Prop) : SEx → Act → World → Prop
  | .normal, a, w => K a w
  | .exit i, a, w => Q (.exit i) a w
  | .ret, a, w => Q .ret a w
  | .bad, _, _ => False

/-- A loop, by the executor: 'frI, pcI, hpI': the state at a round's head, in names of [nm, nm + sub); 'J': what holds of the names; 'm': what each round lowers. -/
theorem loop_rule (pr : PR P) (oo : OOK P O I) {f : Nat} {a : Code} (hpart : PartOf P f a) {nm sub lo sz n it : Nat} {frI : List SV} {pcI : PC} {hpI : Heap} {lsB : List Leaf} (hbody : codeX P O lo sz f n it a frI pcI hpI = some lsB)
    (J : Env G → Prop) (m : Env G → Nat) {B : Base} {ν : Env G} {ρ : Nat → Nat} {Q : Exit → Act → World → Prop} (hQ : NP Q) (hI : ν.I = I)
    (round : ∀ L ∈ lsB, ∀ ν1 ρ1 ν2 ρ2, Agree nm (nm + sub) ν ν1 ρ ρ1 → J ν1 → pcDen ν1 pcI → Agree lo (lo + sz) ν1 ν2 ρ1 ρ2 → pcDen ν2 L.pc → ∀ act w, (NotBad L.ex → FR ν2 ρ2 L.fr act ∧ HW B ν2 ρ2 L.hp w) →
      NormalTo (fun act w => ∃ ν3 ρ3, Agree nm (nm + sub) ν ν3 ρ ρ3 ∧ J ν3 ∧ pcDen ν3 pcI ∧ m ν3 < m ν1 ∧ FR ν3 ρ3 frI act ∧ HW B ν3 ρ3 hpI w) Q L.ex act w)
    (act : Act) (w : World) (start : ∃ ν1 ρ1, Agree nm (nm + sub) ν ν1 ρ ρ1 ∧ J ν1 ∧ pcDen ν1 pcI ∧ FR ν1 ρ1 frI act ∧ HW B ν1 ρ1 hpI w) : (Code.loop a).wp P Q act w := by
  obtain ⟨ν0, ρ0, g1, g2, g3, g4, g5⟩ := start
  refine wp_loop_ghost (fun k act w => ∃ ν1 ρ1, Agree nm (nm + sub) ν ν1 ρ ρ1 ∧ J ν1 ∧ pcDen ν1 pcI ∧ m ν1 = k ∧ FR ν1 ρ1 frI act ∧ HW B ν1 ρ1 hpI w) (m ν0) ⟨ν0, ρ0, g1, g2, g3, rfl, g4, g5⟩ ?_
  rintro k act w ⟨ν1, ρ1, h1, h2, h3, h4, h5, h6⟩
  refine x_code pr oo hbody hpart B ν1 ρ1 (Exit.then _ Q) (h1.I.trans hI) (fun ch a w hq => hQ ch a w hq) ?_ act w ⟨ν1, ρ1, Agree.refl _ _ _ _, h3, fun _ => ⟨h5, h6⟩⟩
  rintro L hL act' w' ⟨ν2, ρ2, k1, k2, k3⟩
  have := round L hL ν1 ρ1 ν2 ρ2 h1 h2 h3 k1 k2 act' w' k3
  cases hex : L.ex with
  | normal =>
    rw [hex] at this
    obtain ⟨ν3, ρ3, e1, e2, e3, e4, e5, e6⟩ := this
    exact ⟨m ν3, by omega, ν3, ρ3, e1, e2, e3, rfl, e5, e6⟩
  | exit i => rw [hex] at this; exact this
  | ret => rw [hex] at this; exact this
  | bad => rw [hex] at this; exact this
end
end Go.Sy
end

section
namespace Go.Sy
open Go Go.RowKit

/-! ### contracts as oracles -/
section
variable {P : Program} {G : Type} {O : Orac} {I : In G}

/-- Of function g: these leaves. -/
def Orac.withCall (O : Orac) (g : Nat) (k : Nat → List SV → PC → Heap → Option (List CLeaf)) : Orac :=
  { O with call := fun f lo args pc hp => if Nat.beq f g then some (k lo args pc hp) else O.call f lo args pc hp }

theorem withCall_ok (oo : OOK P O I) {g : Nat} {k : Nat → List SV → PC → Heap → Option (List CLeaf)}
    (h : ∀ {lo : Nat} {args : List SV} {pc : PC} {hp : Heap} {cs : List CLeaf}, k lo args pc hp = some cs → ∀ (sz : Nat), 64 ≤ sz → ∀ (B : Base) (ν : Env G) (ρ : Nat → Nat) (w : World) (R : Ending → World → Prop), ν.I = I → pcDen ν pc → HW B ν ρ hp w →
      (∀ c ∈ cs, ∀ ν' ρ' w', Agree lo (lo + sz) ν ν' ρ ρ' → pcDen ν' c.pc → c.bad = false ∧ (HW B ν' ρ' c.hp w' → R (.returned (c.v.den ν' ρ')) w')) → Calls P g (denL ν ρ args).toArray w R) : OOK P (O.withCall g k) I where
  call := by
    intro f lo args pc hp cs ho
    unfold Orac.withCall at ho
    simp only at ho
    split at ho
    · rename_i hb
      have hb := Nat.eq_of_beq_eq_true hb
      subst hb
      exact h (Option.some.inj ho)
    · exact oo.call ho
  loop := oo.loop
  op := oo.op
  tail := oo.tail
  order := oo.order

/-- A call that changes nothing old, and hands back what is said. -/
theorem pure_call {g : Nat} {args : List SV} {v : SV} {hp : Heap} {lo sz : Nat} {B : Base} {ν : Env G} {ρ : Nat → Nat} {w : World} {R : Ending → World → Prop} {pc : PC} {cs : List CLeaf} (hpc : pcDen ν pc) (hw : HW B ν ρ hp w)
    (hc : ∀ c ∈ cs, ∀ ν' ρ' w', Agree lo (lo + sz) ν ν' ρ ρ' → pcDen ν' c.pc → c.bad = false ∧ (HW B ν' ρ' c.hp w' → R (.returned (c.v.den ν' ρ')) w')) (hm : (⟨false, v, pc, hp⟩ : CLeaf) ∈ cs)
    (h : Calls P g (denL ν ρ args).toArray w fun e w' => e = .returned (v.den ν ρ) ∧ Below w.heap.size w w') : Calls P g (denL ν ρ args).toArray w R :=
  h.mono fun e w' ⟨he, hb⟩ => by
    subst he
    exact (hc _ hm ν ρ w' (Agree.refl _ _ _ _) hpc).2 (hw.later hb)

/-- All loops in a piece of code. -/
def loops : Code → List Code
  | .seq a b => loops a ++ loops b
  | .cond _ a b => loops a ++ loops b
  | .block _ a => loops a
  | .loop a => a :: loops a
  | _ => []

theorem loops_part {a c : Code} (h : Part a c) : ∀ x ∈ loops a, x ∈ loops c := by
  induction h with
  | refl => exact fun x hx => hx
  | seqL _ ih => exact fun x hx => ih x (by simp [loops, hx])
  | seqR _ ih => exact fun x hx => ih x (by simp [loops, hx])
  | block _ ih => exact fun x hx => ih x (by simp [loops, hx])
  | loop _ ih => exact fun x hx => ih x (by simp [loops, hx])
  | condL _ ih => exact fun x hx => ih x (by simp [loops, hx])
  | condR _ ih => exact fun x hx => ih x (by simp [loops, hx])

def bodyOf (P : Program) (f : Nat) : Code := match P.funcs[f]? with | some fn => fn.body.getD .skip | none => .skip
/-- The loops of a function at a site. -/
def loopsAt (P : Program) (f s : Nat) : List Code := (loops (bodyOf P f)).filter fun b => Nat.beq (site b) s
def loopAt (P : Program) (f s : Nat) : Code := (loopsAt P f s).headD .skip

theorem loop_is {f s : Nat} {a : Code} (h1 : (loopsAt P f s).length = 1) (hp : PartOf P f (.loop a)) (hs : site a = s) : a = loopAt P f s := by
  obtain ⟨fn, body, e1, e2, hpart⟩ := hp
  have hb : bodyOf P f = body := by simp [bodyOf, e1, e2]
  have hm : a ∈ loopsAt P f s := by
    unfold loopsAt
    rw [hb]
    exact List.mem_filter.2 ⟨loops_part hpart a (by simp [loops]), by rw [hs]; exact Nat.beq_refl s⟩
  unfold loopAt
  match hl : loopsAt P f s, h1, hm with
  | [x], _, hm => simpa using hm

theorem partOf_loopBody {f : Nat} {a : Code} (h : PartOf P f (.loop a)) : PartOf P f a := partOf_loop h

/-- Of the loop at site s of function g, entered with this frame and this heap: these leaves. -/
def Orac.withLoop (O : Orac) (g s nm0 : Nat) (fr0 : List SV) (hp0 : Heap) (mk : PC → List Leaf) : Orac :=
  { O with loop := fun f t nm fr pc hp => if Nat.beq f g && Nat.beq t s then some (if Nat.beq nm nm0 && beqL fr fr0 && leafBeq.hB hp hp0 then some (mk pc) else none) else O.loop f t nm fr pc hp }

theorem withLoop_ok (oo : OOK P O I) {g s nm0 : Nat} {fr0 : List SV} {hp0 : Heap} {mk : PC → List Leaf} (h1 : (loopsAt P g s).length = 1)
    (h : ∀ (pc : PC) (sub : Nat), 64 ≤ sub → PartOf P g (loopAt P g s) → ∀ (B : Base) (ν : Env G) (ρ : Nat → Nat) (Q : Exit → Act → World → Prop), NP Q → ν.I = I →
      (∀ L ∈ mk pc, ∀ a w, SatL nm0 (nm0 + sub) ν ρ B L a w → LQ Q L.ex a w) → ∀ act w, pcDen ν pc → FR ν ρ fr0 act → HW B ν ρ hp0 w → (Code.loop (loopAt P g s)).wp P Q act w) : OOK P (O.withLoop g s nm0 fr0 hp0 mk) I where
  call := oo.call
  op := oo.op
  tail := oo.tail
  order := oo.order
  loop := by
    intro f nm a fr pc hp ls hpart ho
    unfold Orac.withLoop at ho
    simp only at ho
    split at ho
    · rename_i hb
      simp only [Bool.and_eq_true] at hb
      have hb1 := Nat.eq_of_beq_eq_true hb.1
      have hb2 := Nat.eq_of_beq_eq_true hb.2
      subst hb1
      split at ho
      · rename_i hc
        simp only [Bool.and_eq_true] at hc
        have c1 := Nat.eq_of_beq_eq_true hc.1.1
        have c2 := beqL_eq hc.1.2
        have c3 := hB_eq hc.2
        subst c1 c2 c3
        cases ho
        have ha := loop_is h1 hpart hb2
        subst ha
        intro sub hsub B ν ρ Q hQ hI hl act w hpc hf hw
        exact h pc sub hsub (partOf_loop hpart) B ν ρ Q hQ hI hl act w hpc hf hw
      · cases ho
    · exact oo.loop hpart ho

/-! ### one frame from another -/
/-- The slots that part, but for dead ones. -/
def diffX (ok : SV → Bool) : List SV → List SV → Option (List (SV × SV))
  | [], [] => some []
  | u :: us, v :: vs => match diffX ok us vs with
    | none => none
    | some l => if v.isDead then some l else if u.beq v && ok v then some l else if u.isDead then none else some ((u, v) :: l)
  | _, _ => none

theorem diffX_den {ok : SV → Bool} {ν ν' : Env G} {ρ ρ' : Nat → Nat} (hok : ∀ v, ok v = true → v.den ν ρ = v.den ν' ρ') : ∀ {us vs : List SV} {l : List (SV × SV)}, diffX ok us vs = some l → (∀ x ∈ l, x.1.den ν ρ = x.2.den ν' ρ') →
    us.length = vs.length ∧ ∀ (t : Nat) (v : SV), vs[t]? = some v → v.isDead = false → ∃ u, us[t]? = some u ∧ u.isDead = false ∧ u.den ν ρ = v.den ν' ρ'
  | [], [], l, _, _ => ⟨rfl, fun t v h => by simp at h⟩
  | [], _ :: _, l, h, _ => by simp [diffX] at h
  | _ :: _, [], l, h, _ => by simp [diffX] at h
  | u :: us, v :: vs, l, h, hl => by
    unfold diffX at h
    split at h
    · cases h
    · rename_i l0 h0
      have key : (∀ x ∈ l0, x.1.den ν ρ = x.2.den ν' ρ') → (v.isDead = false → u.isDead = false ∧ u.den ν ρ = v.den ν' ρ') → (u :: us).length = (v :: vs).length ∧ ∀ (t : Nat) (x : SV), (v :: vs)[t]? = some x → x.isDead = false → ∃ y, (u :: us)[t]? = some y ∧ y.isDead = false ∧ y.den ν ρ = x.den ν' ρ' := by
        intro hl0 hv
        obtain ⟨e1, e2⟩ := diffX_den hok h0 hl0
        refine ⟨by simp [e1], fun t x hx hd => ?_⟩
        cases t with
        | zero =>
          simp only [List.getElem?_cons_zero, Option.some.injEq] at hx
          subst hx
          exact ⟨u, rfl, hv hd⟩
        | succ t => simpa using e2 t x (by simpa using hx) hd
      split at h
      · rename_i hdead
        cases h
        exact key hl (fun hd => by rw [hdead] at hd; cases hd)
      · rename_i hdead
        split at h
        · rename_i hb
          simp only [Bool.and_eq_true] at hb
          cases h
          have hbe := SV.beq_eq hb.1
          subst hbe
          exact key hl (fun hd => ⟨hd, hok u hb.2⟩)
        · split at h
          · cases h
          · rename_i hud
            cases h
            exact key (fun x hx => hl x (by simp [hx])) (fun _ => ⟨by simpa using hud, hl (u, v) (by simp)⟩)

theorem FR.diff {ok : SV → Bool} {ν ν' : Env G} {ρ ρ' : Nat → Nat} (hok : ∀ v, ok v = true → v.den ν ρ = v.den ν' ρ') {us vs : List SV} {l : List (SV × SV)} (h : diffX ok us vs = some l) (hl : ∀ x ∈ l, x.1.den ν ρ = x.2.den ν' ρ') {act : Act} (hf : FR ν ρ us act) : FR ν' ρ' vs act := by
  obtain ⟨e1, e2⟩ := diffX_den hok h hl
  refine ⟨by rw [hf.size, e1], fun t v hv hd => ?_, hf.defers⟩
  obtain ⟨u, hu, hud, hden⟩ := e2 t v hv hd
  rw [hf.tmps t u hu hud, hden]
end
end Go.Sy
end

section
namespace Go.Sy
open Go Go.RowKit

/-! ### loops that change no memory -/
/-- A leaf against the head's frame (normal) or the exit's frame: how it ends; the slots that part; the path. -/
def sumOf (ok : SV → Bool) (frI frX : List SV) (hpI : Heap) (L : Leaf) : Option (SEx × List (SV × SV) × PC) :=
  match L.ex with
  | .bad => some (.bad, [], L.pc)
  | .normal => if leafBeq.hB L.hp hpI then (diffX ok L.fr frI).map fun d => (.normal, d, L.pc) else none
  | .exit i => if leafBeq.hB L.hp hpI then (diffX ok L.fr frX).map fun d => (.exit i, d, L.pc) else none
  | .ret => none
def sumsOf (ok : SV → Bool) (frI frX : List SV) (hpI : Heap) : List Leaf → Option (List (SEx × List (SV × SV) × PC))
  | [] => some []
  | L :: r => match sumOf ok frI frX hpI L, sumsOf ok frI frX hpI r with
    | some s, some l => some (s :: l)
    | _, _ => none

theorem sumsOf_mem {ok : SV → Bool} {frI frX : List SV} {hpI : Heap} : ∀ {ls : List Leaf} {l : List (SEx × List (SV × SV) × PC)}, sumsOf ok frI frX hpI ls = some l → ∀ L ∈ ls, ∃ s ∈ l, sumOf ok frI frX hpI L = some s
  | [], _, _, L, hL => by cases hL
  | M :: r, l, h, L, hL => by
    unfold sumsOf at h
    split at h
    · rename_i s l' hs hl
      cases h
      rcases List.mem_cons.1 hL with rfl | hL
      · exact ⟨s, by simp, hs⟩
      · obtain ⟨s', hs', he⟩ := sumsOf_mem hl L hL
        exact ⟨s', by simp [hs'], he⟩
    · cases h

/-- Names that a round's frame may keep: out of the loop's own, out of the round's. -/
def okNames (nm sub lo sz : Nat) (v : SV) : Bool := v.av nm (nm + sub) && v.av lo (lo + sz)

section
variable {P : Program} {G : Type} {O : Orac} {I : In G}

theorem loop_pure (pr : PR P) (oo : OOK P O I) {f : Nat} {a : Code} (hpart : PartOf P f a) {nm sub0 lo sz n it x : Nat} {fr0 frI frX : List SV} {pcI : PC} {hpI : Heap} {sums : List (SEx × List (SV × SV) × PC)} {start : List (SV × SV)}
    (hbody : (codeX P O lo sz f n it a frI pcI hpI).bind (sumsOf (okNames nm sub0 lo sz) frI frX hpI) = some sums) (h0 : diffX (fun v => v.av nm (nm + sub0)) fr0 frI = some start)
    (hv1 : hav nm (nm + sub0) hpI = true) (hv2 : hav lo (lo + sz) hpI = true)
    (J : Env G → Prop) (m : Env G → Nat) (pcX : PC → PC) {B : Base} {ν : Env G} {ρ : Nat → Nat} {Q : Exit → Act → World → Prop} (hQ : NP Q) (hI : ν.I = I)
    (hstart : ∃ ν1, Agree nm (nm + sub0) ν ν1 ρ ρ ∧ J ν1 ∧ pcDen ν1 pcI ∧ ∀ y ∈ start, y.1.den ν ρ = y.2.den ν1 ρ)
    (round : ∀ s ∈ sums, ∀ ν1 ν2 ρ2, Agree nm (nm + sub0) ν ν1 ρ ρ → J ν1 → pcDen ν1 pcI → Agree lo (lo + sz) ν1 ν2 ρ ρ2 → pcDen ν2 s.2.2 →
      match s.1 with
      | .normal => ∃ ν3, Agree nm (nm + sub0) ν ν3 ρ ρ ∧ J ν3 ∧ pcDen ν3 pcI ∧ m ν3 < m ν1 ∧ ∀ y ∈ s.2.1, y.1.den ν2 ρ2 = y.2.den ν3 ρ
      | .exit i => i = x ∧ ∃ ν3, Agree nm (nm + sub0) ν ν3 ρ ρ ∧ pcDen ν3 (pcX []) ∧ ∀ y ∈ s.2.1, y.1.den ν2 ρ2 = y.2.den ν3 ρ
      | _ => False)
    {pc : PC} (hpcX : ∀ ν3 : Env G, pcDen ν3 (pcX []) → pcDen ν3 pc → pcDen ν3 (pcX pc)) (hpv : pav nm (nm + sub0) pc = true)
    (hl : ∀ a w, SatL nm (nm + sub0) ν ρ B ⟨.exit x, frX, pcX pc, hpI⟩ a w → Q (.exit x) a w) (act : Act) (w : World) (hpc : pcDen ν pc) (hf : FR ν ρ fr0 act) (hw : HW B ν ρ hpI w) : (Code.loop a).wp P Q act w := by
  cases hb : codeX P O lo sz f n it a frI pcI hpI with
  | none => rw [hb] at hbody; cases hbody
  | some lsB =>
    rw [hb] at hbody
    simp only [Option.bind_some] at hbody
    obtain ⟨ν0, g1, g2, g3, g4⟩ := hstart
    have hnames : ∀ {ν1 ν2 ν3 : Env G} {ρ2 : Nat → Nat}, Agree nm (nm + sub0) ν ν1 ρ ρ → Agree lo (lo + sz) ν1 ν2 ρ ρ2 → Agree nm (nm + sub0) ν ν3 ρ ρ → ∀ v, okNames nm sub0 lo sz v = true → v.den ν2 ρ2 = v.den ν3 ρ := by
      intro ν1 ν2 ν3 ρ2 a1 a2 a3 v hv
      simp only [okNames, Bool.and_eq_true] at hv
      rw [SV.den_agree a2 v hv.2, SV.den_agree a1 v hv.1, SV.den_agree a3 v hv.1]
    refine wp_loop_ghost (fun k act w => ∃ ν1, Agree nm (nm + sub0) ν ν1 ρ ρ ∧ J ν1 ∧ pcDen ν1 pcI ∧ m ν1 = k ∧ FR ν1 ρ frI act ∧ HW B ν1 ρ hpI w) (m ν0) ⟨ν0, g1, g2, g3, rfl, FR.diff (fun v hv => (SV.den_agree g1 v hv).symm) h0 g4 hf, HW.agree g1 hv1 hw⟩ ?_
    rintro k act w ⟨ν1, h1, h2, h3, h4, h5, h6⟩
    refine x_code pr oo hb hpart B ν1 ρ (Exit.then _ Q) (h1.I.trans hI) (fun ch a w hq => hQ ch a w hq) ?_ act w ⟨ν1, ρ, Agree.refl _ _ _ _, h3, fun _ => ⟨h5, h6⟩⟩
    rintro L hL act' w' ⟨ν2, ρ2, k1, k2, k3⟩
    obtain ⟨s, hs, hsum⟩ := sumsOf_mem hbody L hL
    have hback : ∀ {ν3 : Env G}, Agree nm (nm + sub0) ν ν3 ρ ρ → HW B ν2 ρ2 hpI w' → HW B ν3 ρ hpI w' := fun h7 hw2 => HW.agree h7 hv1 (HW.agree h1.symm hv1 (HW.agree k1.symm hv2 hw2))
    unfold sumOf at hsum
    cases hex : L.ex with
    | normal =>
      rw [hex] at hsum k3
      simp only at hsum
      split at hsum
      · rename_i hheap
        simp only [Option.map_eq_some_iff] at hsum
        obtain ⟨d, hd, rfl⟩ := hsum
        obtain ⟨ν3, e1, e2, e3, e4, e5⟩ := round _ hs ν1 ν2 ρ2 h1 h2 h3 k1 k2
        obtain ⟨hf2, hw2⟩ := k3 trivial
        rw [hB_eq hheap] at hw2
        exact ⟨m ν3, by omega, ν3, e1, e2, e3, rfl, FR.diff (hnames h1 k1 e1) hd e5 hf2, hback e1 hw2⟩
      · cases hsum
    | exit i =>
      rw [hex] at hsum k3
      simp only at hsum
      split at hsum
      · rename_i hheap
        simp only [Option.map_eq_some_iff] at hsum
        obtain ⟨d, hd, rfl⟩ := hsum
        obtain ⟨rfl, ν3, e1, e2, e3⟩ := round _ hs ν1 ν2 ρ2 h1 h2 h3 k1 k2
        obtain ⟨hf2, hw2⟩ := k3 trivial
        rw [hB_eq hheap] at hw2
        refine hl act' w' ⟨ν3, ρ, e1, hpcX ν3 e2 (pcDen_agree e1 hpv hpc), fun _ => ⟨FR.diff (hnames h1 k1 e1) hd e3 hf2, hback e1 hw2⟩⟩
      · cases hsum
    | ret => rw [hex] at hsum; cases hsum
    | bad =>
      rw [hex] at hsum
      simp only [Option.some.injEq] at hsum
      subst hsum
      exact (round _ hs ν1 ν2 ρ2 h1 h2 h3 k1 k2).elim
end
end Go.Sy
end

section
namespace Go.Sy
open Go Go.RowKit

/-! ### one heap from another: the rows whose lists part; blocks that are left out -/
def diffB (ok : SBk → Bool) (b c : SBk) : Option (List (SL × SL)) :=
  if b.beq c && ok b then some [] else match b, c with
  | .row k l e t, .row k' l' e' t' => if kBeq k k' && e.beq e' && Nat.beq t t' && ok (.row k .nil e t) then some [(l, l')] else none
  | _, _ => none
def diffH (okn : Nat → Bool) (ok : SBk → Bool) : Heap → Heap → Option (List (SL × SL))
  | _, [] => some []
  | [], _ :: _ => none
  | (n, b) :: us, (m, c) :: vs => if Nat.beq n m then (if okn n then (match diffB ok b c, diffH okn ok us vs with | some x, some y => some (x ++ y) | _, _ => none) else none) else diffH okn ok us ((m, c) :: vs)

section
variable {G : Type}

theorem diffB_den {ok : SBk → Bool} {B : Base} {ν ν' : Env G} {ρ ρ' : Nat → Nat} {n : Nat} (hn : ρ' n = ρ n) (hok : ∀ b, ok b = true → ∀ w F, BlkDen B ν ρ w F n b → BlkDen B ν' ρ' w F n b) (hsi : ∀ k e t, ok (.row k .nil e t) = true → e.den ν = e.den ν') {b c : SBk} {l : List (SL × SL)}
    (h : diffB ok b c = some l) (hl : ∀ y ∈ l, y.1.den ν = y.2.den ν') {w : World} {F : Nat → Prop} (hd : BlkDen B ν ρ w F n b) : BlkDen B ν' ρ' w F n c := by
  unfold diffB at h
  split at h
  · rename_i hb
    simp only [Bool.and_eq_true] at hb
    have := SBk.beq_eq hb.1
    subst this
    exact hok b hb.2 w F hd
  · split at h
    · split at h
      · rename_i hb
        simp only [Bool.and_eq_true] at hb
        cases h
        have e1 := kBeq_eq hb.1.1.1
        have e2 := SI.beq_eq hb.1.1.2
        have e3 := Nat.eq_of_beq_eq_true hb.1.2
        subst e1 e2 e3
        have h4 := hsi _ _ _ hb.2
        have h5 := hl (_, _) (List.mem_singleton.2 rfl)
        simp only [BlkDen] at *
        rw [hn, ← h4, ← h5]
        exact hd
      · cases h
    · cases h

theorem diffH_den {okn : Nat → Bool} {ok : SBk → Bool} {B : Base} {ν ν' : Env G} {ρ ρ' : Nat → Nat} (hn : ∀ n, okn n = true → ρ' n = ρ n) (hok : ∀ n b, okn n = true → ok b = true → ∀ w F, BlkDen B ν ρ w F n b → BlkDen B ν' ρ' w F n b) (hsi : ∀ k e t, ok (.row k .nil e t) = true → e.den ν = e.den ν') : ∀ {us vs : Heap} {l : List (SL × SL)},
    diffH okn ok us vs = some l → (∀ y ∈ l, y.1.den ν = y.2.den ν') → ((vs.map (·.1)).Sublist (us.map (·.1))) ∧ ∀ m c, (m, c) ∈ vs → ∃ b, (m, b) ∈ us ∧ ∀ w F, BlkDen B ν ρ w F m b → BlkDen B ν' ρ' w F m c
  | us, [], _, _, _ => ⟨by simp, fun m c h => by cases h⟩
  | [], _ :: _, l, h, _ => by simp [diffH] at h
  | (n, b) :: us, (m, c) :: vs, l, h, hl => by
    unfold diffH at h
    split at h
    · rename_i hnm
      have hnm := Nat.eq_of_beq_eq_true hnm
      subst hnm
      split at h
      · rename_i hokn
        split at h
        · rename_i x y hx hy
          cases h
          obtain ⟨e1, e2⟩ := diffH_den hn hok hsi hy (fun z hz => hl z (List.mem_append_right _ hz))
          refine ⟨by simpa using e1, fun k d hk => ?_⟩
          rcases List.mem_cons.1 hk with hk | hk
          · cases hk
            exact ⟨b, by simp, fun w F hd => diffB_den (hn _ hokn) (fun b' hb' => hok _ b' hokn hb') hsi hx (fun z hz => hl z (List.mem_append_left _ hz)) hd⟩
          · obtain ⟨b', hb', h2⟩ := e2 k d hk
            exact ⟨b', by simp [hb'], h2⟩
        · cases h
      · cases h
    · obtain ⟨e1, e2⟩ := diffH_den hn hok hsi h hl
      refine ⟨by simpa using List.Sublist.cons n e1, fun k d hk => ?_⟩
      obtain ⟨b', hb', h2⟩ := e2 k d hk
      exact ⟨b', by simp [hb'], h2⟩

theorem HW.diff {okn : Nat → Bool} {ok : SBk → Bool} {B : Base} {ν ν' : Env G} {ρ ρ' : Nat → Nat} (hn : ∀ n, okn n = true → ρ' n = ρ n) (hok : ∀ n b, okn n = true → ok b = true → ∀ w F, BlkDen B ν ρ w F n b → BlkDen B ν' ρ' w F n b) (hsi : ∀ k e t, ok (.row k .nil e t) = true → e.den ν = e.den ν') {us vs : Heap} {l : List (SL × SL)}
    (h : diffH okn ok us vs = some l) (hl : ∀ y ∈ l, y.1.den ν = y.2.den ν') {w : World} (hw : HW B ν ρ us w) : HW B ν' ρ' vs w := by
  obtain ⟨e1, e2⟩ := diffH_den (B := B) hn hok hsi h hl
  obtain ⟨F, h1, h2, h3⟩ := hw.foot
  refine ⟨hw.os, hw.tape, hw.output, hw.size, hw.kept, e1.nodup hw.nd, F, fun n c hm => ?_, fun n c k hm hk => ?_, fun n c m d k hm hm' hk hk' => ?_⟩
  · obtain ⟨b, hb, h4⟩ := e2 n c hm
    exact h4 w _ (h1 n b hb)
  · obtain ⟨b, hb, _⟩ := e2 n c hm
    exact h2 n b k hb hk
  · obtain ⟨b, hb, _⟩ := e2 n c hm
    obtain ⟨b', hb', _⟩ := e2 m d hm'
    exact h3 n b m b' k hb hb' hk hk'

/-! ### loops that change rows -/
structure Sum where
  ex : SEx
  ds : List (SV × SV)
  ls : List (SL × SL)
  pc : PC
/-- How a loop is left: the frame, the heap. -/
structure Tgt where
  ex : SEx
  fr : List SV
  hp : Heap
  pc : PC
def exBeq : SEx → SEx → Bool
  | .normal, .normal => true
  | .exit i, .exit j => Nat.beq i j
  | .ret, .ret => true
  | _, _ => false
theorem exBeq_eq : ∀ {a b : SEx}, exBeq a b = true → a = b := by
  intro a b h
  cases a <;> cases b <;> simp_all [exBeq]
def tgtOf (e : SEx) : List Tgt → Option Tgt
  | [] => none
  | t :: r => if exBeq t.ex e then some t else tgtOf e r
theorem tgtOf_mem {e : SEx} : ∀ {l : List Tgt} {t : Tgt}, tgtOf e l = some t → t ∈ l ∧ t.ex = e
  | [], t, h => by simp [tgtOf] at h
  | u :: r, t, h => by
    unfold tgtOf at h
    split at h
    · rename_i hb
      cases h
      exact ⟨by simp, exBeq_eq hb⟩
    · obtain ⟨h1, h2⟩ := tgtOf_mem h
      exact ⟨by simp [h1], h2⟩

def okN (nm lo sz : Nat) (n : Nat) : Bool := out nm (nm + 64) n && out lo (lo + sz) n
def okB (nm lo sz : Nat) (b : SBk) : Bool := b.av nm (nm + 64) && b.av lo (lo + sz)
def sumM (nm lo sz : Nat) (tg : List Tgt) (L : Leaf) : Option Sum :=
  match L.ex with
  | .bad => some ⟨.bad, [], [], L.pc⟩
  | ex => match tgtOf ex tg with
    | none => none
    | some t => match diffX (okNames nm 64 lo sz) L.fr t.fr, diffH (okN nm lo sz) (okB nm lo sz) L.hp t.hp with
      | some d, some l => some ⟨ex, d, l, L.pc⟩
      | _, _ => none
def sumsM (nm lo sz : Nat) (tg : List Tgt) : List Leaf → Option (List Sum)
  | [] => some []
  | L :: r => match sumM nm lo sz tg L, sumsM nm lo sz tg r with
    | some s, some l => some (s :: l)
    | _, _ => none
theorem sumsM_mem {nm lo sz : Nat} {tg : List Tgt} : ∀ {ls : List Leaf} {l : List Sum}, sumsM nm lo sz tg ls = some l → ∀ L ∈ ls, ∃ s ∈ l, sumM nm lo sz tg L = some s
  | [], _, _, L, hL => by cases hL
  | M :: r, l, h, L, hL => by
    unfold sumsM at h
    split at h
    · rename_i s l' hs hl
      cases h
      rcases List.mem_cons.1 hL with rfl | hL
      · exact ⟨s, by simp, hs⟩
      · obtain ⟨s', hs', he⟩ := sumsM_mem hl L hL
        exact ⟨s', by simp [hs'], he⟩
    · cases h

/-- What is owed and not known. -/
def prune (pc bs : PC) : PC := bs.filter fun x => match x.1.known pc with
  | some v => bBeq v x.2
  | none => true
theorem prune_denG {G : Type} {ν : Env G} {pc bs : PC} (hpc : pcDen ν pc) (h : ∀ x ∈ prune pc bs, x.1.den ν ≠ x.2) : ∀ x ∈ bs, x.1.den ν ≠ x.2 := by
  intro x hx
  by_cases hm : x ∈ prune pc bs
  · exact h x hm
  · unfold prune at hm
    have : (match x.1.known pc with | some v => bBeq v x.2 | none => true) = false := by
      cases hb : (match x.1.known pc with | some v => bBeq v x.2 | none => true) with
      | false => rfl
      | true => exact absurd (List.mem_filter.2 ⟨hx, hb⟩) hm
    cases hk : x.1.known pc with
    | none => rw [hk] at this; cases this
    | some v =>
      rw [hk] at this
      have hv := SB.known_den hpc hk
      intro he
      rw [hv] at he
      rw [he] at this
      have hr : bBeq x.2 x.2 = true := by cases x.2 <;> rfl
      exact Bool.noConfusion (this.symm.trans hr)
/-- The leaves of a loop: as it is left; what must not be. -/
def mkM (nm : Nat) (tg : List Tgt) (bads : PC) (pc : PC) : List Leaf :=
  if pav nm (nm + 64) pc then (tg.filter fun t => !exBeq t.ex .normal).map (fun t => ⟨t.ex, t.fr, t.pc ++ pc, t.hp⟩) ++ (prune pc bads).map (fun c => ⟨.bad, [], c :: pc, []⟩) else [⟨.bad, [], [], []⟩]

theorem pcDen_one' {ν : Env G} {c : SB} {b : Bool} {q : PC} (h : c.den ν = b) (hq : pcDen ν q) : pcDen ν ((c, b) :: q) := fun d x hm => by
  rcases List.mem_cons.1 hm with hm | hm
  · cases hm; exact h
  · exact hq d x hm

section
variable {P : Program} {O : Orac} {I : In G}

theorem loopM_ok (pr : PR P) (oo : OOK P O I) {f s nm lo sz n it : Nat} (h1 : (loopsAt P f s).length = 1) {fr0 frI : List SV} {hp0 hpI : Heap} {pcI bads : PC} {tg : List Tgt} {sums : List Sum} {start : List (SV × SV)} {startL : List (SL × SL)}
    (hbody : (codeX P O lo sz f n it (loopAt P f s) frI pcI hpI).bind (sumsM nm lo sz (⟨.normal, frI, hpI, pcI⟩ :: tg)) = some sums)
    (hst : diffX (fun v => v.av nm (nm + 64)) fr0 frI = some start) (hsl : diffH (fun m => out nm (nm + 64) m) (fun b => b.av nm (nm + 64)) hp0 hpI = some startL)
    (J : Env G → Env G → Prop) (m : Env G → Env G → Nat)
    (hstart : ∀ ν ρ, ν.I = I → (∀ x ∈ bads, x.1.den ν ≠ x.2) → ∃ ν1, Agree nm (nm + 64) ν ν1 ρ ρ ∧ J ν ν1 ∧ pcDen ν1 pcI ∧ (∀ y ∈ start, y.1.den ν ρ = y.2.den ν1 ρ) ∧ ∀ y ∈ startL, y.1.den ν = y.2.den ν1)
    (round : ∀ s ∈ sums, ∀ ν ρ ν1 ν2 ρ2, ν.I = I → (∀ x ∈ bads, x.1.den ν ≠ x.2) → Agree nm (nm + 64) ν ν1 ρ ρ → J ν ν1 → pcDen ν1 pcI → Agree lo (lo + sz) ν1 ν2 ρ ρ2 → pcDen ν2 s.pc →
      match s.ex with
      | .normal => ∃ ν3, Agree nm (nm + 64) ν ν3 ρ ρ ∧ J ν ν3 ∧ pcDen ν3 pcI ∧ m ν ν3 < m ν ν1 ∧ (∀ y ∈ s.ds, y.1.den ν2 ρ2 = y.2.den ν3 ρ) ∧ ∀ y ∈ s.ls, y.1.den ν2 = y.2.den ν3
      | .bad => False
      | ex => ∃ ν3, Agree nm (nm + 64) ν ν3 ρ ρ ∧ (∀ t ∈ tg, t.ex = ex → pcDen ν3 t.pc) ∧ (∀ y ∈ s.ds, y.1.den ν2 ρ2 = y.2.den ν3 ρ) ∧ ∀ y ∈ s.ls, y.1.den ν2 = y.2.den ν3) {O' : Orac} (oo' : OOK P O' I) :
    OOK P (O'.withLoop f s nm fr0 hp0 (mkM nm tg bads)) I := by
  refine withLoop_ok oo' h1 ?_
  intro pc sub hsub hpart B ν ρ Q hQ hI hl act w hpc hf hw
  unfold mkM at hl
  cases hp : pav nm (nm + 64) pc with
  | false => rw [hp] at hl; exact (hl ⟨.bad, [], [], []⟩ (by simp) act w ⟨ν, ρ, Agree.refl _ _ _ _, pcDen_nil _, fun h => h.elim⟩).elim
  | true =>
    rw [hp] at hl
    simp only [if_true] at hl
    have hbad : ∀ x ∈ bads, x.1.den ν ≠ x.2 := prune_denG hpc fun x hx he =>
      (hl ⟨.bad, [], x :: pc, []⟩ (List.mem_append_right _ (List.mem_map.2 ⟨x, hx, rfl⟩)) act w ⟨ν, ρ, Agree.refl _ _ _ _, pcDen_one' he hpc, fun h => h.elim⟩).elim
    have hmono : ∀ {ν3 : Env G}, Agree nm (nm + 64) ν ν3 ρ ρ → Agree nm (nm + sub) ν ν3 ρ ρ := fun h => h.mono (Nat.ble_eq_true_of_le (Nat.le_refl _)) (Nat.ble_eq_true_of_le (by omega))
    cases hb : codeX P O lo sz f n it (loopAt P f s) frI pcI hpI with
    | none => rw [hb] at hbody; cases hbody
    | some lsB =>
      rw [hb] at hbody
      simp only [Option.bind_some] at hbody
      obtain ⟨ν0, g1, g2, g3, g4, g5⟩ := hstart ν ρ hI hbad
      have hnames : ∀ {ν1 ν2 ν3 : Env G} {ρ2 : Nat → Nat}, Agree nm (nm + 64) ν ν1 ρ ρ → Agree lo (lo + sz) ν1 ν2 ρ ρ2 → Agree nm (nm + 64) ν ν3 ρ ρ → ∀ v, okNames nm 64 lo sz v = true → v.den ν2 ρ2 = v.den ν3 ρ := by
        intro ν1 ν2 ν3 ρ2 a1 a2 a3 v hv
        simp only [okNames, Bool.and_eq_true] at hv
        rw [SV.den_agree a2 v hv.2, SV.den_agree a1 v hv.1, SV.den_agree a3 v hv.1]
      have hheaps : ∀ {ν1 ν2 ν3 : Env G} {ρ2 : Nat → Nat}, Agree nm (nm + 64) ν ν1 ρ ρ → Agree lo (lo + sz) ν1 ν2 ρ ρ2 → Agree nm (nm + 64) ν ν3 ρ ρ → ∀ {us vs : Heap} {l : List (SL × SL)}, diffH (okN nm lo sz) (okB nm lo sz) us vs = some l → (∀ y ∈ l, y.1.den ν2 = y.2.den ν3) → ∀ {w : World}, HW B ν2 ρ2 us w → HW B ν3 ρ vs w := by
        intro ν1 ν2 ν3 ρ2 a1 a2 a3 us vs l hd hy w hw
        refine HW.diff (fun n hn => ?_) (fun n b hn hb w F hd => ?_) (fun k e t he => ?_) hd hy hw
        · simp only [okN, Bool.and_eq_true] at hn
          exact (a2.r n hn.2).symm
        · simp only [okN, Bool.and_eq_true] at hn
          simp only [okB, Bool.and_eq_true] at hb
          exact BlkDen.agree a3 hb.1 hn.1 (BlkDen.agree a1.symm hb.1 hn.1 (BlkDen.agree a2.symm hb.2 hn.2 hd))
        · simp only [okB, Bool.and_eq_true, SBk.av] at he
          rw [SI.den_agree a2 e he.2.2, SI.den_agree a1 e he.1.2, SI.den_agree a3 e he.1.2]
      refine wp_loop_ghost (fun k act w => ∃ ν1, Agree nm (nm + 64) ν ν1 ρ ρ ∧ J ν ν1 ∧ pcDen ν1 pcI ∧ m ν ν1 = k ∧ FR ν1 ρ frI act ∧ HW B ν1 ρ hpI w) (m ν ν0) ⟨ν0, g1, g2, g3, rfl, FR.diff (fun v hv => (SV.den_agree g1 v hv).symm) hst g4 hf,
        HW.diff (fun _ _ => rfl) (fun n b hn hb w F hd => BlkDen.agree g1 hb hn hd) (fun k e t he => by simp only [SBk.av, Bool.and_eq_true] at he; exact (SI.den_agree g1 e he.2).symm) hsl g5 hw⟩ ?_
      rintro k act w ⟨ν1, k1, k2, k3, k4, k5, k6⟩
      refine x_code pr oo hb hpart B ν1 ρ (Exit.then _ Q) (k1.I.trans hI) (fun ch a w hq => hQ ch a w hq) ?_ act w ⟨ν1, ρ, Agree.refl _ _ _ _, k3, fun _ => ⟨k5, k6⟩⟩
      rintro L hL act' w' ⟨ν2, ρ2, e1, e2, e3⟩
      obtain ⟨t, ht, hsum⟩ := sumsM_mem hbody L hL
      have hr := round t ht ν ρ ν1 ν2 ρ2 hI hbad k1 k2 k3 e1
      unfold sumM at hsum
      cases hex : L.ex with
      | normal =>
        rw [hex] at hsum e3
        simp only [tgtOf, exBeq, if_true] at hsum
        split at hsum
        · rename_i d l hd hl'
          cases hsum
          obtain ⟨ν3, q1, q2, q3, q4, q5, q6⟩ := hr e2
          obtain ⟨hf2, hw2⟩ := e3 trivial
          exact ⟨m ν ν3, by omega, ν3, q1, q2, q3, rfl, FR.diff (hnames k1 e1 q1) hd q5 hf2, hheaps k1 e1 q1 hl' q6 hw2⟩
        · cases hsum
      | exit i =>
        rw [hex] at hsum e3
        simp only [tgtOf, exBeq] at hsum
        split at hsum
        · cases hsum
        · rename_i t' ht'
          have ht' : tgtOf (.exit i) tg = some t' := by simpa using ht'
          obtain ⟨m1, m2⟩ := tgtOf_mem ht'
          split at hsum
          · rename_i d l hd hl'
            cases hsum
            obtain ⟨ν3, q1, q2, q3, q4⟩ := hr e2
            obtain ⟨hf2, hw2⟩ := e3 trivial
            have := hl ⟨t'.ex, t'.fr, t'.pc ++ pc, t'.hp⟩ (List.mem_append_left _ (List.mem_map.2 ⟨t', List.mem_filter.2 ⟨m1, by rw [m2]; rfl⟩, rfl⟩)) act' w'
              ⟨ν3, ρ, hmono q1, pcDen_append (q2 t' m1 m2) (pcDen_agree q1 hp hpc), fun _ => ⟨FR.diff (hnames k1 e1 q1) hd q3 hf2, hheaps k1 e1 q1 hl' q4 hw2⟩⟩
            simp only [m2] at this
            exact this
          · cases hsum
      | ret =>
        rw [hex] at hsum e3
        simp only [tgtOf, exBeq] at hsum
        split at hsum
        · cases hsum
        · rename_i t' ht'
          have ht' : tgtOf .ret tg = some t' := by simpa using ht'
          obtain ⟨m1, m2⟩ := tgtOf_mem ht'
          split at hsum
          · rename_i d l hd hl'
            cases hsum
            obtain ⟨ν3, q1, q2, q3, q4⟩ := hr e2
            obtain ⟨hf2, hw2⟩ := e3 trivial
            have := hl ⟨t'.ex, t'.fr, t'.pc ++ pc, t'.hp⟩ (List.mem_append_left _ (List.mem_map.2 ⟨t', List.mem_filter.2 ⟨m1, by rw [m2]; rfl⟩, rfl⟩)) act' w'
              ⟨ν3, ρ, hmono q1, pcDen_append (q2 t' m1 m2) (pcDen_agree q1 hp hpc), fun _ => ⟨FR.diff (hnames k1 e1 q1) hd q3 hf2, hheaps k1 e1 q1 hl' q4 hw2⟩⟩
            simp only [m2] at this
            exact this
          · cases hsum
      | bad =>
        rw [hex] at hsum
        simp only [Option.some.injEq] at hsum
        subst hsum
        exact (hr e2).elim
end
end
end Go.Sy
end

section
namespace Go.Sy
open Go Go.RowKit

/-! ### a loop's entry, got by a run -/
def capt (O : Orac) (f s : Nat) : Orac := { O with loop := fun g t nm fr pc hp => if Nat.beq f g && Nat.beq s t then some (some [⟨.exit 777, fr, pc, hp⟩]) else O.loop g t nm fr pc hp }
def is777 (L : Leaf) : Bool := match L.ex with | .exit i => Nat.beq i 777 | _ => false
/-- The frame, the path and the heap as the loop at site s of function f is first reached. -/
def capL (P : Program) (O : Orac) (f s : Nat) (args : List SV) (pc : PC) (hp : Heap) : Leaf := match P.funcs[f]? with
  | some fn => match pieceX P (capt O f s) f (bodyOf P f) (args ++ List.replicate (fn.ntmps - args.length) (.tup [])) pc hp with
    | some ls => (ls.find? is777).getD ⟨.bad, [], [], []⟩
    | _ => ⟨.bad, [], [], []⟩
  | none => ⟨.bad, [], [], []⟩
/-- All of them. -/
def capAll (P : Program) (O : Orac) (f s : Nat) (args : List SV) (pc : PC) (hp : Heap) : List Leaf := match P.funcs[f]? with
  | some fn => match pieceX P (capt O f s) f (bodyOf P f) (args ++ List.replicate (fn.ntmps - args.length) (.tup [])) pc hp with
    | some ls => ls.filter is777
    | _ => []
  | none => []
def capN (n : Nat) (l : List Leaf) : Leaf := (l[n]?).getD ⟨.bad, [], [], []⟩
/-- Slots that are not laid: nothing is said. -/
def deadUndef : List SV → List SV
  | [] => []
  | .tup [] :: r => .dead :: deadUndef r
  | v :: r => v :: deadUndef r
/-- A slice's row, with another list. -/
def setRow (v : SV) (l : SL) (hp : Heap) : Heap := match v with
  | .sl b _ _ _ => match hget b hp with
    | some (.row k _ c t) => hset b (.row k l c t) hp
    | _ => hp
  | _ => hp
/-- From slot n on: nothing is said. -/
def deadFrom (n : Nat) (l : List SV) : List SV := l.take n ++ List.replicate (l.length - n) .dead
/-- The name of a loop at site s, in a top-level run. -/
def nmAt (s : Nat) : Nat := LO + (s * 256 + 255) * (LO / K0)

theorem out_small {s m : Nat} (h : m < 1000) : out (nmAt s) (nmAt s + 64) m = true := by
  unfold out nmAt
  have : (1000 : Nat) ≤ LO := by decide +kernel
  have h2 : LO ≤ LO + (s * 256 + 255) * (LO / K0) := Nat.le_add_right _ _
  simp only [Bool.or_eq_true, Nat.ble_eq]
  omega
theorem out_big {m : Nat} (h : m < 1000) : out (2^700) (2^700 + 2^650) m = true := by
  unfold out
  have : (1000 : Nat) ≤ 2^700 := by decide +kernel
  simp only [Bool.or_eq_true, Nat.ble_eq]
  omega
theorem out_LO {m : Nat} (h : m < 1000) : out LO (LO + LO) m = true := by
  unfold out
  have : (1000 : Nat) ≤ LO := by decide +kernel
  simp only [Bool.or_eq_true, Nat.ble_eq]
  omega
theorem out_nm {s j : Nat} (hs : Nat.ble s 100000 = true) (h : j < 64) : out (2^700) (2^700 + 2^650) (nmAt s + j) = true := by
  unfold out nmAt
  have hs := Nat.le_of_ble_eq_true hs
  have h1 : (s * 256 + 255) * (LO / K0) ≤ 25600255 * (LO / K0) := Nat.mul_le_mul_right _ (by omega)
  have h2 : LO + 25600255 * (LO / K0) + 64 ≤ 2^700 := by decide +kernel
  simp only [Bool.or_eq_true, Nat.ble_eq]
  omega

section
variable {P : Program} {G : Type} {O : Orac} {I : In G}
/-- A call that changes nothing old, and hands back what is said; the leaf may say more of the path. -/
theorem pure_call' {g : Nat} {args : List SV} {v : SV} {hp : Heap} {lo sz : Nat} {B : Base} {ν : Env G} {ρ : Nat → Nat} {w : World} {R : Ending → World → Prop} {pc : PC} {cs : List CLeaf} (hpc : pcDen ν pc) (hw : HW B ν ρ hp w)
    (hc : ∀ c ∈ cs, ∀ ν' ρ' w', Agree lo (lo + sz) ν ν' ρ ρ' → pcDen ν' c.pc → c.bad = false ∧ (HW B ν' ρ' c.hp w' → R (.returned (c.v.den ν' ρ')) w')) (hm : (⟨false, v, pc, hp⟩ : CLeaf) ∈ cs)
    (h : Calls P g (denL ν ρ args).toArray w fun e w' => e = .returned (v.den ν ρ) ∧ Below w.heap.size w w') : Calls P g (denL ν ρ args).toArray w R :=
  h.mono fun e w' ⟨he, hb⟩ => by
    subst he
    exact (hc _ hm ν ρ w' (Agree.refl _ _ _ _) hpc).2 (hw.later hb)
end
end Go.Sy
end

section
namespace Go.Sy
open Go Go.RowKit

/-- An access on a list of words. -/
def doG (k c a b : Int) (l : List Int) : Gh :=
  if k < 1 ∨ 7 < k then ⟨0, 2, false, l, [], [], 0⟩
  else if c < 0 ∨ (l.length : Int) ≤ c then ⟨0, 3, false, l, [], [], 0⟩
  else
    let was := l.getD c.toNat 0
    if k = 1 then ⟨was, 0, true, l, [], [], 0⟩
    else if k = 2 then ⟨was, 0, true, l.set c.toNat a, [], [], 0⟩
    else if k = 3 then (if was = a then ⟨was, 0, true, l.set c.toNat b, [], [], 0⟩ else ⟨was, 0, false, l, [], [], 0⟩)
    else if k = 4 then ⟨was, 0, true, l.set c.toNat (IntKind.u64.wrap (was + a)), [], [], 0⟩
    else if k = 5 then ⟨was, 0, true, l.set c.toNat (bitsDen 1 .u64 was a), [], [], 0⟩
    else if k = 6 then ⟨was, 0, true, l.set c.toNat (bitsDen 0 .u64 was a), [], [], 0⟩
    else ⟨was, 0, decide (was ≠ a), l, [], [], 0⟩

theorem doG_length (k c a b : Int) (l : List Int) : (doG k c a b l).l.length = l.length := by
  unfold doG
  simp only
  repeat' split
  all_goals simp

/-- An arena's cells in a memory of n zeros, as its links are laid up to i (first free: 2). -/
def aG (n at' N i : Int) : List Int := (List.range n.toNat).map fun (k : Nat) => if (k : Int) = at' then 2 else if at' + 2 ≤ (k : Int) ∧ (k : Int) < at' + i ∧ (k : Int) < at' + N then (k : Int) - at' + 1 else 0
theorem aG_length (n at' N i : Int) : (aG n at' N i).length = n.toNat := by simp [aG]
theorem aG_get (n at' N i : Int) (k : Nat) (h : k < (aG n at' N i).length) : (aG n at' N i)[k] = if (k : Int) = at' then 2 else if at' + 2 ≤ (k : Int) ∧ (k : Int) < at' + i ∧ (k : Int) < at' + N then (k : Int) - at' + 1 else 0 := by
  simp [aG]
theorem aG_set {n at' N i v : Int} (h0 : 0 ≤ at') (h1 : 1 ≤ i) (hv : v = if 2 ≤ i ∧ i < N then i + 1 else 0) : (aG n at' N i).set (at' + i).toNat v = aG n at' N (i + 1) := by
  refine List.ext_getElem (by simp [aG_length]) fun k h h' => ?_
  rw [List.getElem_set, aG_get, aG_get]
  subst hv
  by_cases e : (at' + i).toNat = k
  · rw [if_pos e]
    have e1 : (k : Int) = at' + i := by omega
    have e3 : ¬ (k : Int) = at' := by omega
    by_cases h2 : 2 ≤ i ∧ i < N
    · have h3 : at' + 2 ≤ (k : Int) ∧ (k : Int) < at' + (i + 1) ∧ (k : Int) < at' + N := by omega
      rw [if_pos h2, if_neg e3, if_pos h3]; omega
    · have h3 : ¬ (at' + 2 ≤ (k : Int) ∧ (k : Int) < at' + (i + 1) ∧ (k : Int) < at' + N) := by omega
      rw [if_neg h2, if_neg e3, if_neg h3]
  · rw [if_neg e]
    by_cases e2 : (k : Int) = at'
    · rw [if_pos e2, if_pos e2]
    · rw [if_neg e2, if_neg e2]
      by_cases h2 : at' + 2 ≤ (k : Int) ∧ (k : Int) < at' + i ∧ (k : Int) < at' + N
      · have h3 : at' + 2 ≤ (k : Int) ∧ (k : Int) < at' + (i + 1) ∧ (k : Int) < at' + N := by omega
        rw [if_pos h2, if_pos h3]
      · have h3 : ¬ (at' + 2 ≤ (k : Int) ∧ (k : Int) < at' + (i + 1) ∧ (k : Int) < at' + N) := by omega
        rw [if_neg h2, if_neg h3]
theorem aG_start {n at' N i : Int} (h0 : 0 ≤ at') (hi : i ≤ 2) : (List.replicate n.toNat (0 : Int)).set at'.toNat 2 = aG n at' N i := by
  refine List.ext_getElem (by simp [aG_length]) fun k h h' => ?_
  rw [List.getElem_set, aG_get, List.getElem_replicate]
  by_cases e : at'.toNat = k
  · rw [if_pos e, if_pos (by omega)]
  · rw [if_neg e, if_neg (by omega), if_neg (by omega)]
/-- A line's cells: a memory of n zeros where an arena lies at at' + 2, and two 1s ahead of it. -/
def qG (n at' N : Int) : List Int := ((aG n (at' + 2) N (N + 1)).set at'.toNat 1).set (at' + 1).toNat 1
theorem qG_length (n at' N : Int) : (qG n at' N).length = n.toNat := by simp [qG, aG_length]

/-- An arena's cells at at' in a memory, as its links are laid up to i, f the first free one. -/
def iG (l : List Int) (at' N f i : Int) : List Int := (List.range l.length).map fun (k : Nat) => if (k : Int) = at' then (if f ≤ N then f else 0) else if at' < (k : Int) ∧ (k : Int) < at' + i then (if f ≤ (k : Int) - at' ∧ (k : Int) - at' < N then (k : Int) - at' + 1 else 0) else l.getD k 0
theorem iG_length (l : List Int) (at' N f i : Int) : (iG l at' N f i).length = l.length := by simp [iG]
theorem iG_get (l : List Int) (at' N f i : Int) (k : Nat) (h : k < (iG l at' N f i).length) : (iG l at' N f i)[k] = if (k : Int) = at' then (if f ≤ N then f else 0) else if at' < (k : Int) ∧ (k : Int) < at' + i then (if f ≤ (k : Int) - at' ∧ (k : Int) - at' < N then (k : Int) - at' + 1 else 0) else l.getD k 0 := by
  simp [iG]
theorem iG_set {l : List Int} {at' N f i v : Int} (h0 : 0 ≤ at') (h1 : 1 ≤ i) (hv : v = if f ≤ i ∧ i < N then i + 1 else 0) : (iG l at' N f i).set (at' + i).toNat v = iG l at' N f (i + 1) := by
  refine List.ext_getElem (by simp [iG_length]) fun k h h' => ?_
  rw [List.getElem_set, iG_get, iG_get]
  subst hv
  by_cases e : (at' + i).toNat = k
  · have e1 : (k : Int) - at' = i := by omega
    have e3 : ¬ (k : Int) = at' := by omega
    have e4 : at' < (k : Int) ∧ (k : Int) < at' + (i + 1) := by omega
    rw [if_pos e, if_neg e3, if_pos e4, e1]
  · rw [if_neg e]
    by_cases e2 : (k : Int) = at'
    · rw [if_pos e2, if_pos e2]
    · rw [if_neg e2, if_neg e2]
      by_cases h2 : at' < (k : Int) ∧ (k : Int) < at' + i
      · have h3 : at' < (k : Int) ∧ (k : Int) < at' + (i + 1) := by omega
        rw [if_pos h2, if_pos h3]
      · have h3 : ¬ (at' < (k : Int) ∧ (k : Int) < at' + (i + 1)) := by omega
        rw [if_neg h2, if_neg h3]
theorem iG_start {l : List Int} {at' N f v : Int} (h0 : 0 ≤ at') (hv : v = if f ≤ N then f else 0) : l.set at'.toNat v = iG l at' N f 1 := by
  refine List.ext_getElem (by simp [iG_length]) fun k h h' => ?_
  rw [List.getElem_set, iG_get]
  subst hv
  by_cases e : at'.toNat = k
  · have e0 : (k : Int) = at' := by omega
    rw [if_pos e, if_pos e0]
  · have e2 : ¬ (k : Int) = at' := by omega
    have e3 : ¬ (at' < (k : Int) ∧ (k : Int) < at' + 1) := by omega
    rw [if_neg e, if_neg e2, if_neg e3, List.getD_eq_getElem?_getD, List.getElem?_eq_getElem (by simpa using h), Option.getD_some]

/-- n, n - 1, .., i + 1. -/
def fG (n i : Int) : List Int := (List.range (n - i).toNat).map fun (k : Nat) => n - (k : Int)
theorem fG_length (n i : Int) : (fG n i).length = (n - i).toNat := by simp [fG]
theorem fG_self (n : Int) : fG n n = [] := by simp [fG]
theorem fG_step {n i : Int} (h : i ≤ n) : fG n i ++ [i] = fG n (i - 1) := by
  unfold fG
  have e : (n - (i - 1)).toNat = (n - i).toNat + 1 := by omega
  rw [e, List.range_succ, List.map_append]
  have e2 : n - (((n - i).toNat : Nat) : Int) = i := by omega
  simp only [List.map_cons, List.map_nil, e2]

/-- May a cell of kind p be of kind k? (A slice may be none.) -/
def kOK (p : Int) (k : Nat) : Prop := (k : Int) = p ∨ (p = 10 ∧ k = 9)
/-- A row of structs in memory: its cells, and the slices to which they lead. -/
structure srep (g : Gh) (w : World) (n : Nat) (F : Nat → Prop) : Prop where
  wpos : 1 ≤ g.w
  whole : ∃ r, g.s.length = r * g.w
  row : ∃ rest : List Value, w.heap[n]? = some (.cells (g.s.map SC.val ++ rest).toArray (g.c - 1).toNat (0, 0)) ∧ g.u * (g.w : Int) = ((g.s.length + rest.length : Nat) : Int) ∧ g.u ≤ 9223372036854775807
  kinds : ∀ i c, g.s[i]? = some c → kOK (g.l.getD (i % g.w) 0) c.k
  nil : ∀ c ∈ g.s, c.k = 9 → c.l = []
  sub : ∀ c ∈ g.s, 10 ≤ c.k → c.b ≠ n ∧ ∃ (ty : Nat) (rest : List Value), w.heap[c.b]? = some (.cells (c.l.map (Value.int .u64) ++ rest).toArray ty (0, 0)) ∧ c.c = c.l.length + rest.length ∧ c.c ≤ 9223372036854775807
  foot : ∀ k, F k ↔ k = n ∨ ∃ c ∈ g.s, 10 ≤ c.k ∧ k = c.b
theorem srep.lt {g : Gh} {w : World} {n : Nat} {F : Nat → Prop} (h : srep g w n F) {k : Nat} (hk : F k) : k < w.heap.size := by
  rcases (h.foot k).1 hk with rfl | ⟨c, hc, h10, rfl⟩
  · obtain ⟨_, h1, _⟩ := h.row
    exact (Array.getElem?_eq_some_iff.1 h1).1
  · obtain ⟨_, _, _, h1, _⟩ := h.sub c hc h10
    exact (Array.getElem?_eq_some_iff.1 h1).1
theorem srep.frame {g : Gh} {w w' : World} {n : Nat} {F : Nat → Prop} (h : srep g w n F) (he : ∀ k, F k → w'.heap[k]? = w.heap[k]?) : srep g w' n F where
  wpos := h.wpos
  whole := h.whole
  kinds := h.kinds
  nil := h.nil
  row := by rw [he n ((h.foot n).2 (.inl rfl))]; exact h.row
  sub := fun c hc h10 => by rw [he c.b ((h.foot c.b).2 (.inr ⟨c, hc, h10, rfl⟩))]; exact h.sub c hc h10
  foot := h.foot

def inM : In Gh where
  gi f g a b := match f with
    | 0 => g.u
    | 1 => g.c
    | 10 => (g.t.getD a.toNat (0, 0, 0, 0)).1
    | 11 => (g.t.getD a.toNat (0, 0, 0, 0)).2.1
    | 12 => (g.t.getD a.toNat (0, 0, 0, 0)).2.2.1
    | 13 => (g.t.getD a.toNat (0, 0, 0, 0)).2.2.2
    | 14 => g.s.length
    | 15 => (getC g.s (a + b)).x
    | 16 => g.w
    | 17 => ((g.s.length / g.w : Nat) : Int)
    | _ => 0
  gb f g a _ := match f with
    | 11 => decide (0 < (g.t.getD a.toNat (0, 0, 0, 0)).2.1)
    | _ => g.o
  gl f g _ _ := g.l
  ga f g h a b c d l := match f with
    | 0 => doG a b c d l
    | 1 => ghL l
    | 2 => ⟨0, 0, g.l == h.l, [], [], [], 0⟩
    | 20 => ghL (aG a b c d)
    | 21 => ghL (qG a b c)
    | 22 => ghL (iG l a b c d)
    | 23 => ghL (fG a b)
    | f => xga f g h a b c d l
  gv := fun _ g a => (getC g.s a).val
  gvo := fun _ g a => (getC g.s a).val_one
  rep := fun g w n F => (g.c = 0 → w.heap[n]? = some (.cells (g.l.map bval).toArray g.u.toNat (0, 0)) ∧ ∀ k, F k ↔ k = n) ∧ (g.c ≠ 0 → srep g w n F)
  lt := fun {g w n F} h k hk => by
    by_cases hc : g.c = 0
    · obtain ⟨h1, h2⟩ := h.1 hc
      have := (h2 k).1 hk
      subst this
      exact (Array.getElem?_eq_some_iff.1 h1).1
    · exact (h.2 hc).lt hk
  frame := fun {g w w' n F} h he => ⟨fun hc => ⟨by rw [he _ (((h.1 hc).2 _).2 rfl)]; exact (h.1 hc).1, (h.1 hc).2⟩, fun hc => (h.2 hc).frame he⟩

def doX (k c a b : SI) (l : SL) : SG := .app 0 (.var 0) (.var 0) k c a b l
def eqX (l m : SL) : SB := if l.beq m then .lit true else .gb 0 (.app 2 (.app 1 (.var 0) (.var 0) (.lit 0) (.lit 0) (.lit 0) (.lit 0) l) (.app 1 (.var 0) (.var 0) (.lit 0) (.lit 0) (.lit 0) (.lit 0) m) (.lit 0) (.lit 0) (.lit 0) (.lit 0) .nil) (.lit 0) (.lit 0)

section
variable {ν : Env Gh} (hI : ν.I = inM)
include hI
theorem doX_gi0 (k c a b : SI) (l : SL) (x y : SI) : (SI.gi 0 (doX k c a b l) x y).den ν = (doG (k.den ν) (c.den ν) (a.den ν) (b.den ν) (l.den ν)).u := by simp [SI.den, doX, SG.den, hI, inM]
theorem doX_gi1 (k c a b : SI) (l : SL) (x y : SI) : (SI.gi 1 (doX k c a b l) x y).den ν = (doG (k.den ν) (c.den ν) (a.den ν) (b.den ν) (l.den ν)).c := by simp [SI.den, doX, SG.den, hI, inM]
theorem doX_gb (k c a b : SI) (l : SL) (x y : SI) : (SB.gb 0 (doX k c a b l) x y).den ν = (doG (k.den ν) (c.den ν) (a.den ν) (b.den ν) (l.den ν)).o := by simp [SB.den, doX, SG.den, hI, inM]
theorem doX_gl (f : Nat) (k c a b : SI) (l : SL) (x y : SI) : (SL.gl f (doX k c a b l) x y).den ν = (doG (k.den ν) (c.den ν) (a.den ν) (b.den ν) (l.den ν)).l := by simp [SL.den, doX, SG.den, hI, inM]
theorem eqX_den (l m : SL) : (eqX l m).den ν = (l.den ν == m.den ν) := by
  unfold eqX
  split
  · rename_i h
    rw [SL.beq_eq h]
    simp [SB.den]
  · simp [SB.den, SG.den, hI, inM, ghL]
end

/-- A list has this length, as is seen from its form. -/
def lenIs : SI → SL → Bool
  | n, .rep m x => n.beq m || n.beq (SI.mkNat m) || n.beq (.len (.rep m x))
  | n, .set l i x => lenIs n l || n.beq (.len (.set l i x))
  | n, .gl f (.app g h h' a b c d l) x y => (Nat.beq g 0 && lenIs n l) || n.beq (.len (.gl f (.app g h h' a b c d l) x y))
  | n, l => n.beq (.len l)
theorem lenIs_den {ν : Env Gh} (hI : ν.I = inM) : ∀ {n : SI} {l : SL}, lenIs n l = true → (n.den ν).toNat = (l.den ν).length := by
  have base : ∀ {n : SI} {l : SL}, n.beq (.len l) = true → (n.den ν).toNat = (l.den ν).length := fun h => by rw [SI.beq_eq h]; simp [SI.den]
  intro n l
  induction n, l using lenIs.induct with
  | case1 n m x =>
    intro h
    simp only [lenIs, Bool.or_eq_true] at h
    rcases h with (h | h) | h
    · rw [SI.beq_eq h]; simp [SL.den]
    · rw [SI.beq_eq h]; simp only [SL.den, SI.mkNat_den, List.length_replicate]; omega
    · exact base h
  | case2 n l i x ih =>
    intro h
    simp only [lenIs, Bool.or_eq_true] at h
    rcases h with h | h
    · rw [ih h]; simp [SL.den]
    · exact base h
  | case3 n f g h' h'' a b c d l x y ih =>
    intro h
    simp only [lenIs, Bool.or_eq_true, Bool.and_eq_true] at h
    rcases h with h | h
    · have := Nat.eq_of_beq_eq_true h.1
      subst this
      rw [ih h.2]
      simp [SL.den, SG.den, hI, inM, doG_length]
    · exact base h
  | case4 n l h1 h2 h3 =>
    intro h
    unfold lenIs at h
    split at h
    · exact (h1 _ _ rfl).elim
    · exact (h2 _ _ _ rfl).elim
    · exact (h3 _ _ _ _ _ _ _ _ _ _ _ rfl).elim
    · exact base h

/-- A slice of words that can be read. -/
def Ints (w : World) (v : Value) (xs : List Int) : Prop := ∃ g o c : Nat, v = .slice (some ⟨g, o, none⟩) xs.length c ∧ g < w.heap.size ∧ xs.length ≤ 9223372036854775807 ∧ ∀ (j : Nat) (x : Int), xs[j]? = some x → w.cell? ⟨g, o + j, none⟩ = some (.int .u64 x)

/-- What a slice holds, and what is still owed (its length). -/
def intsX (hp : Heap) : SV → Option (SL × PC)
  | .sl q o n _ => match hget q hp with
    | some (.row k l _ _) => if kBeq k .u64 && o.beq (.lit 0) then some (l, if lenIs n l then [] else [(.eq (.nat n) (.len l), false)]) else none
    | _ => none
  | _ => none

theorem intsX_den {B : Base} {ν : Env Gh} {ρ : Nat → Nat} {hp : Heap} {w : World} (hI : ν.I = inM) (hw : HW B ν ρ hp w) {v : SV} {l : SL} {bs : PC} (h : intsX hp v = some (l, bs)) (hb : ∀ x ∈ bs, x.1.den ν ≠ x.2) : Ints w (v.den ν ρ) (l.den ν) := by
  unfold intsX at h
  split at h
  · rename_i q o n c
    split at h
    · rename_i k l' cp ty hg
      split at h
      · rename_i hk
        simp only [Bool.and_eq_true] at hk
        simp only [Option.some.injEq, Prod.mk.injEq] at h
        obtain ⟨rfl, rfl⟩ := h
        have e1 := kBeq_eq hk.1
        have e2 := SI.beq_eq hk.2
        subst e1 e2
        obtain ⟨rest, h1, h2, h3⟩ := hw.ints (hget_mem hg)
        have hlen : (n.den ν).toNat = (l'.den ν).length := by
          cases hl : lenIs n l' with
          | true => exact lenIs_den hI hl
          | false =>
            rw [hl] at hb
            simp only [Bool.false_eq_true, if_false, List.mem_singleton, forall_eq] at hb
            have := hb
            simp only [SB.den, SI.den, ne_eq, beq_eq_false_iff_ne, Decidable.not_not] at this
            omega
        refine ⟨ρ q, 0, (c.den ν).toNat, by simp [SV.den, SI.den, hlen], Array.getElem?_eq_some_iff.1 h1 |>.1, by omega, fun j x hx => ?_⟩
        rw [cell_at h1]
        have hj : j < (l'.den ν).length := (List.getElem?_eq_some_iff.1 hx).1
        rw [List.getElem?_append_left (by simpa using hj), List.getElem?_map, Nat.zero_add, hx]
        rfl
      · cases h
    · cases h
  · cases h

def bad1 (pc : PC) (c : SB × Bool) : CLeaf := ⟨true, .tup [], c :: pc, []⟩

/-- Are two slices' words the same? -/
def eqK (_ : Nat) (args : List SV) (pc : PC) (hp : Heap) : Option (List CLeaf) := match args with
  | [a, b] => match intsX hp a, intsX hp b with
    | some (l, bs), some (m, cs) => some (⟨false, .bool (eqX l m), pc, hp⟩ :: (bs ++ cs).map (bad1 pc))
    | _, _ => none
  | _ => none

def EqC (P : Program) (g : Nat) : Prop := ∀ (w : World) (a b : Value) (xs ys : List Int), Ints w a xs → Ints w b ys → Calls P g #[a, b] w fun e w' => e = .returned (.bool (xs == ys)) ∧ Below w.heap.size w w'

variable {P : Program} {O : Orac}

theorem bads_ok {pc : PC} {ν : Env Gh} {ρ : Nat → Nat} {B : Base} {lo sz : Nat} {R : Ending → World → Prop} {cs : List CLeaf} {bs : PC} (hpc : pcDen ν pc)
    (hc : ∀ c ∈ cs, ∀ ν' ρ' w', Agree lo (lo + sz) ν ν' ρ ρ' → pcDen ν' c.pc → c.bad = false ∧ (HW B ν' ρ' c.hp w' → R (.returned (c.v.den ν' ρ')) w')) (hm : ∀ x ∈ bs, bad1 pc x ∈ cs) : ∀ x ∈ bs, x.1.den ν ≠ x.2 := fun x hx he => by
  have := (hc _ (hm x hx) ν ρ B.w0 (Agree.refl _ _ _ _) (pcDen_one' he hpc)).1
  simp [bad1] at this

theorem eqK_ok (oo : OOK P O inM) {g : Nat} (hc : EqC P g) : OOK P (O.withCall g eqK) inM := by
  refine withCall_ok oo ?_
  intro lo args pc hp cs h sz hsz B ν ρ w R hI hpc hw hl
  unfold eqK at h
  split at h
  · rename_i a b
    split at h
    · rename_i l bs m bs' h1 h2
      cases h
      have hb := bads_ok (bs := bs ++ bs') hpc hl (fun x hx => by simp only [List.mem_cons, List.mem_map]; exact .inr ⟨x, hx, rfl⟩)
      have i1 := intsX_den hI hw h1 (fun x hx => hb x (by simp [hx]))
      have i2 := intsX_den hI hw h2 (fun x hx => hb x (by simp [hx]))
      refine pure_call' (v := .bool (eqX l m)) hpc hw hl (List.mem_cons_self ..) ?_
      have := hc w _ _ _ _ i1 i2
      simp only [SV.den, eqX_den hI]
      exact this
    · cases h
  · cases h

/-! ### an access -/
/-- One old block turned; new ones. -/
structure Turned (q : Nat) (o : Obj) (w w' : World) : Prop where
  os : w'.os = w.os
  tape : w'.tape = w.tape
  output : w'.output = w.output
  size : w.heap.size ≤ w'.heap.size
  kept : ∀ k, k < w.heap.size → k ≠ q → w'.heap[k]? = w.heap[k]?
  new : w'.heap[q]? = some o

theorem HW.turned {B : Base} {ν : Env Gh} {ρ : Nat → Nat} {hp : Heap} {w w' : World} (h : HW B ν ρ hp w) {n : Nat} {b b' : SBk} (hc : NoRes b) (hn : (n, b) ∈ hp) {o : Obj} (ht : Turned (ρ n) o w w')
    (hb : BlkDen B ν ρ w' (fun j => j = ρ n) n b') : HW B ν ρ (hset n b' hp) w' := by
  obtain ⟨F, h1, h2, h3⟩ := h.foot
  have hF := BlkDen.single hc (h1 n b hn)
  have hkk : ∀ k, ¬ B.own k → w'.heap[k]? = w.heap[k]? := fun k hk => by
    have hlt : k < w.heap.size := by
      rcases Nat.lt_or_ge k w.heap.size with hl | hl
      · exact hl
      · exact absurd (.inl (Nat.le_trans h.size hl)) hk
    exact ht.kept k hlt (fun e => hk (e ▸ h2 n b _ hn ((hF _).2 rfl)))
  refine ⟨ht.os.trans h.os, ht.tape.trans h.tape, ht.output.trans h.output, Nat.le_trans h.size ht.size, fun k hk' => (hkk k hk').trans (h.kept k hk'), by rw [hset_fst]; exact h.nd, ?_⟩
  · have key : ∀ m c, (m, c) ∈ hset n b' hp → ∃ d, (m, d) ∈ hp := fun m c hm => by
      rcases mem_hset h.nd hm with ⟨rfl, rfl⟩ | ⟨hne, hm⟩
      · exact ⟨b, hn⟩
      · exact ⟨c, hm⟩
    refine ⟨F, fun m c hm => ?_, fun m c k hm hFk => ?_, fun m c m' c' k hm hm' hk1 hk2 => ?_⟩
    · rcases mem_hset h.nd hm with ⟨rfl, rfl⟩ | ⟨hne, hm⟩
      · have : F m = fun j => j = ρ m := by funext j; exact propext (hF j)
        rw [this]; exact hb
      · exact BlkDen.world (fun k hFk => ht.kept k (BlkDen.lt (h1 m c hm) hFk) (fun e => hne (h3 m c n b k hm hn hFk ((hF k).2 e)))) (h1 m c hm)
    · obtain ⟨d, hd⟩ := key m c hm
      exact h2 m d k hd hFk
    · obtain ⟨d, hd⟩ := key m c hm
      obtain ⟨d', hd'⟩ := key m' c' hm'
      exact h3 m d m' d' k hd hd' hk1 hk2

def rowObj (l : List Int) (rest : List Value) (ty : Nat) : Obj := .cells (l.map (Value.int .u64) ++ rest).toArray ty (0, 0)

/-- A memory's access. -/
def DoC (P : Program) (g tyM tyR : Nat) : Prop := ∀ (w : World) (p q cap : Nat) (xs : List Int) (rest : List Value) (k c a b : Int), p ≠ q → w.heap[p]? = some (.cells #[.slice (some ⟨q, 0, none⟩) xs.length cap] tyM (0, 0)) → w.heap[q]? = some (rowObj xs rest tyR) → xs.length + rest.length ≤ 9223372036854775807 →
  Calls P g #[.pointer (some ⟨p, 0, none⟩), .agg #[.int .i64 k, .int .i64 c, .int .u64 a, .int .u64 b]] w fun e w' => e = .returned (.tuple #[.int .u64 (doG k c a b xs).u, .bool (doG k c a b xs).o, .int .i64 (doG k c a b xs).c]) ∧ ∃ rest' : List Value, rest'.length = rest.length ∧ Turned q (rowObj (doG k c a b xs).l rest' tyR) w w'
/-- The document's, of a slice. -/
def DoR (P : Program) (g tyR : Nat) : Prop := ∀ (w : World) (q cap : Nat) (xs : List Int) (rest : List Value) (k c a b : Int), w.heap[q]? = some (rowObj xs rest tyR) → xs.length + rest.length ≤ 9223372036854775807 →
  Calls P g #[.slice (some ⟨q, 0, none⟩) xs.length cap, .agg #[.int .i64 k, .int .i64 c, .int .u64 a, .int .u64 b]] w fun e w' => e = .returned (.tuple #[.int .u64 (doG k c a b xs).u, .bool (doG k c a b xs).o, .int .i64 (doG k c a b xs).c]) ∧ ∃ rest' : List Value, rest'.length = rest.length ∧ Turned q (rowObj (doG k c a b xs).l rest' tyR) w w'

def rowK (tyR q : Nat) (n : SI) (acc : SV) (pc : PC) (hp : Heap) : Option (List CLeaf) := match acc with
  | .agg [.int .i64 k, .int .i64 c, .int .u64 a, .int .u64 b] => match hget q hp with
    | some (.row .u64 l cp ty) => if !(Nat.beq ty tyR) then none else some (⟨false, .tup [.int .u64 (.gi 0 (doX k c a b l) (.lit 0) (.lit 0)), .bool (.gb 0 (doX k c a b l) (.lit 0) (.lit 0)), .int .i64 (.gi 1 (doX k c a b l) (.lit 0) (.lit 0))], pc, hset q (.row .u64 (.gl 0 (doX k c a b l) (.lit 0) (.lit 0)) cp ty) hp⟩ ::
        (if lenIs n l then [] else [(SB.eq (.nat n) (.len l), false)]).map (bad1 pc))
    | _ => none
  | _ => none
def doK (tyM tyR : Nat) (_ : Nat) (args : List SV) (pc : PC) (hp : Heap) : Option (List CLeaf) := match args with
  | [.ptr p o, acc] => match hget p hp with
    | some (.cells [.sl q o' n _] ty true) => if o.beq (.lit 0) && o'.beq (.lit 0) && Nat.beq ty tyM then rowK tyR q n acc pc hp else none
    | _ => none
  | _ => none
def doRK (tyR : Nat) (_ : Nat) (args : List SV) (pc : PC) (hp : Heap) : Option (List CLeaf) := match args with
  | [.sl q o' n _, acc] => if o'.beq (.lit 0) then rowK tyR q n acc pc hp else none
  | _ => none

/-- The common part: a row turned by an access. -/
theorem rowK_ok {tyR q : Nat} {n : SI} {acc : SV} {pc : PC} {hp : Heap} {cs : List CLeaf} (h : rowK tyR q n acc pc hp = some cs) {g : Nat} {first : Value} {lo sz : Nat} {B : Base} {ν : Env Gh} {ρ : Nat → Nat} {w : World} {R : Ending → World → Prop} (hI : ν.I = inM) (hpc : pcDen ν pc) (hw : HW B ν ρ hp w)
    (hl : ∀ c ∈ cs, ∀ ν' ρ' w', Agree lo (lo + sz) ν ν' ρ ρ' → pcDen ν' c.pc → c.bad = false ∧ (HW B ν' ρ' c.hp w' → R (.returned (c.v.den ν' ρ')) w'))
    (hcall : ∀ (xs : List Int) (rest : List Value) (k c a b : Int), (n.den ν).toNat = xs.length → w.heap[ρ q]? = some (rowObj xs rest tyR) → xs.length + rest.length ≤ 9223372036854775807 → Calls P g #[first, .agg #[.int .i64 k, .int .i64 c, .int .u64 a, .int .u64 b]] w fun e w' => e = .returned (.tuple #[.int .u64 (doG k c a b xs).u, .bool (doG k c a b xs).o, .int .i64 (doG k c a b xs).c]) ∧ ∃ rest' : List Value, rest'.length = rest.length ∧ Turned (ρ q) (rowObj (doG k c a b xs).l rest' tyR) w w') :
    Calls P g #[first, acc.den ν ρ] w R := by
  unfold rowK at h
  split at h
  · rename_i k c a b
    split at h
    · rename_i l cp ty hg
      split at h
      · cases h
      rename_i hty
      have hty := Nat.eq_of_beq_eq_true (by simpa using hty : Nat.beq ty tyR = true)
      subst hty
      cases h
      obtain ⟨rest, h1, h2, h3⟩ := hw.ints (hget_mem hg)
      have hb := bads_ok hpc hl (bs := if lenIs n l then [] else [(SB.eq (.nat n) (.len l), false)]) (fun x hx => List.mem_cons_of_mem _ (List.mem_map.2 ⟨x, hx, rfl⟩))
      have hlen : (n.den ν).toNat = (l.den ν).length := by
        cases hl : lenIs n l with
        | true => exact lenIs_den hI hl
        | false =>
          rw [hl] at hb
          simp only [Bool.false_eq_true, if_false, List.mem_singleton, forall_eq] at hb
          have := hb
          simp only [SB.den, SI.den, ne_eq, beq_eq_false_iff_ne, Decidable.not_not] at this
          omega
      have hcl := hcall (l.den ν) rest (k.den ν) (c.den ν) (a.den ν) (b.den ν) hlen h1 (by omega)
      have eacc : (SV.agg [.int .i64 k, .int .i64 c, .int .u64 a, .int .u64 b]).den ν ρ = .agg #[.int .i64 (k.den ν), .int .i64 (c.den ν), .int .u64 (a.den ν), .int .u64 (b.den ν)] := by simp [SV.den, denL]
      rw [eacc]
      refine hcl.mono fun e w' ⟨he, rest', hr, ht⟩ => ?_
      subst he
      have hm := hl _ (List.mem_cons_self ..) ν ρ w' (Agree.refl _ _ _ _) hpc
      have := hm.2 (hw.turned (b := .row .u64 l cp ty) trivial (hget_mem hg) ht (by
        simp only [BlkDen, doX_gl hI]
        refine ⟨⟨rest', ht.new, ?_, ?_⟩, fun _ => trivial⟩
        · rw [doG_length, hr]; exact h2
        · exact h3))
      simpa only [SV.den, denL, doX_gi0 hI, doX_gi1 hI, doX_gb hI] using this
    · cases h
  · cases h

theorem doK_ok (oo : OOK P O inM) {g tyM tyR : Nat} (hc : DoC P g tyM tyR) : OOK P (O.withCall g (doK tyM tyR)) inM := by
  refine withCall_ok oo ?_
  intro lo args pc hp cs h sz hsz B ν ρ w R hI hpc hw hl
  unfold doK at h
  split at h
  · rename_i p o acc
    split at h
    · rename_i q o' n cap ty hg
      split at h
      · rename_i hk
        simp only [Bool.and_eq_true] at hk
        have e1 := SI.beq_eq hk.1.1
        have e2 := SI.beq_eq hk.1.2
        have e3 := Nat.eq_of_beq_eq_true hk.2
        subst e1 e2 e3
        have hx : ∃ l cp ty', hget q hp = some (.row .u64 l cp ty') := by
          unfold rowK at h
          split at h
          · split at h
            · rename_i l cp ty' hq; exact ⟨l, cp, ty', hq⟩
            · cases h
          · cases h
        have hne : ρ p ≠ ρ q := fun e => by
          obtain ⟨l, cp, ty', hq⟩ := hx
          obtain ⟨F, f1, f2, f3⟩ := hw.foot
          have a1 := (BlkDen.single (b := .cells [.sl q (.lit 0) n cap] ty true) trivial (f1 _ _ (hget_mem hg)) (ρ p)).2 rfl
          have a2 := (BlkDen.single (b := .row .u64 l cp ty') trivial (f1 _ _ (hget_mem hq)) (ρ q)).2 rfl
          have := f3 _ _ _ _ _ (hget_mem hg) (hget_mem hq) a1 (e ▸ a2)
          subst this
          rw [hg] at hq
          cases hq
        have hcell := hw.row (hget_mem hg)
        have e : (denL ν ρ [SV.ptr p (.lit 0), acc]).toArray = #[.pointer (some ⟨ρ p, 0, none⟩), acc.den ν ρ] := by simp [denL, SV.den, SI.den]
        rw [e]
        refine rowK_ok h hI hpc hw hl fun xs rest k c a b hn hq hm => ?_
        obtain ⟨r, h1, h2⟩ := hcell
        rw [h2 rfl] at h1
        refine hc w (ρ p) (ρ q) (cap.den ν).toNat xs rest k c a b hne ?_ hq hm
        rw [h1, ← hn]
        simp [denL, SV.den, SI.den]
      · cases h
    · cases h
  · cases h

theorem doRK_ok (oo : OOK P O inM) {g tyR : Nat} (hc : DoR P g tyR) : OOK P (O.withCall g (doRK tyR)) inM := by
  refine withCall_ok oo ?_
  intro lo args pc hp cs h sz hsz B ν ρ w R hI hpc hw hl
  unfold doRK at h
  split at h
  · rename_i q o' n cap acc
    split at h
    · rename_i hk
      have e2 := SI.beq_eq hk
      subst e2
      have e : (denL ν ρ [SV.sl q (.lit 0) n cap, acc]).toArray = #[.slice (some ⟨ρ q, 0, none⟩) (n.den ν).toNat (cap.den ν).toNat, acc.den ν ρ] := by simp [denL, SV.den, SI.den]
      rw [e]
      refine rowK_ok h hI hpc hw hl fun xs rest k c a b hn hq hm => ?_
      rw [hn]
      exact hc w (ρ q) (cap.den ν).toNat xs rest k c a b hq hm
    · cases h
  · cases h

/-! ### contracts of calls that turn one row -/
/-- The leaves: may it be; the value; the path; the row's list. -/
def keptX (kp : Option (Nat × List SV × Nat)) (hp : Heap) : Bool := match kp with
  | none => true
  | some (n, cs, ty) => match hget n hp with
    | some b => b.beq (.cells cs ty true)
    | none => false
def rw1 (kp : Option (Nat × List SV × Nat)) (n : Nat) (cp : SI) (ty : Nat) (c : CLeaf) : Option (Bool × SV × PC × SL) :=
  if c.bad then some (true, c.v, c.pc, .nil) else match hget n c.hp with
    | some (.row .u64 l cp' ty') => if cp'.beq cp && Nat.beq ty' ty && keptX kp c.hp then some (false, c.v, c.pc, l) else none
    | _ => none
def rwL (kp : Option (Nat × List SV × Nat)) (n : Nat) (cp : SI) (ty : Nat) : List CLeaf → Option (List (Bool × SV × PC × SL))
  | [] => some []
  | c :: r => match rw1 kp n cp ty c, rwL kp n cp ty r with
    | some x, some l => some (x :: l)
    | _, _ => none
def rwOf (kp : Option (Nat × List SV × Nat)) (n : Nat) (cp : SI) (ty : Nat) (o : Option (List CLeaf)) : Option (List (Bool × SV × PC × SL)) := o.bind (rwL kp n cp ty)

theorem rwOf_mem {kp : Option (Nat × List SV × Nat)} {n : Nat} {cp : SI} {ty : Nat} : ∀ {cs : List CLeaf} {l : List (Bool × SV × PC × SL)}, rwL kp n cp ty cs = some l → ∀ c ∈ cs, ∃ s, (c.bad, c.v, c.pc, s) ∈ l ∧ (c.bad = false → hget n c.hp = some (.row .u64 s cp ty) ∧ keptX kp c.hp = true)
  | [], _, _, c, hc => by cases hc
  | d :: r, l, h, c, hc => by
    unfold rwL at h
    split at h
    · rename_i x l' hx hl
      cases h
      rcases List.mem_cons.1 hc with rfl | hc
      · unfold rw1 at hx
        split at hx
        · rename_i hb; cases hx; exact ⟨.nil, by simp [hb], fun h => by rw [hb] at h; cases h⟩
        · rename_i hb
          have hb : c.bad = false := by simpa using hb
          split at hx
          · rename_i l0 cp' ty' hg
            split at hx
            · rename_i he
              simp only [Bool.and_eq_true] at he
              cases hx
              rw [SI.beq_eq he.1.1, Nat.eq_of_beq_eq_true he.1.2] at hg
              exact ⟨l0, by simp [hb], fun _ => ⟨hg, he.2⟩⟩
            · cases hx
          · cases hx
      · obtain ⟨s, h1, h2⟩ := rwOf_mem hl c hc
        exact ⟨s, by simp [h1], h2⟩
    · cases h

/-- A base where two blocks are the walk's. -/
def base2 (w : World) (p q : Nat) : Base := ⟨w, fun k => k = p ∨ k = q⟩

theorem rw_calls {P : Program} {G : Type} {O : Orac} {I : In G} (pr : PR P) (oo : OOK P O I) {f : Nat} {args : List SV} {pc : PC} {hp : Heap} {kp : Option (Nat × List SV × Nat)} {n ty : Nat} {cp : SI} {l : List (Bool × SV × PC × SL)} (h : rwOf kp n cp ty (runX P O f args pc hp) = some l) (w : World) (p q : Nat) (ν : Env G) (ρ : Nat → Nat) (R : Ending → World → Prop) (hI : ν.I = I)
    (hpc : pcDen ν pc) (hw : HW (base2 w p q) ν ρ hp w) (hn : ∀ ρ' : Nat → Nat, (∀ m, out LO (LO + LO) m = true → ρ' m = ρ m) → ρ' n = q)
    (hc : ∀ x ∈ l, ∀ ν' ρ', Agree LO (LO + LO) ν ν' ρ ρ' → pcDen ν' x.2.2.1 → x.1 = false ∧ ∀ w' rest, w'.os = w.os → w'.tape = w.tape → w'.output = w.output → w.heap.size ≤ w'.heap.size → (∀ k, k < w.heap.size → k ≠ p → k ≠ q → w'.heap[k]? = w.heap[k]?) → (∀ m cs t, kp = some (m, cs, t) → w'.heap[ρ' m]? = some (.cells (denL ν' ρ' cs).toArray t (0, 0))) → w'.heap[q]? = some (rowObj (x.2.2.2.den ν') rest ty) → cp.den ν' = ((x.2.2.2.den ν').length + rest.length : Nat) → R (.returned (x.2.1.den ν' ρ')) w') : Calls P f (denL ν ρ args).toArray w R := by
  cases hr : runX P O f args pc hp with
  | none => rw [hr] at h; cases h
  | some cs =>
    rw [hr] at h
    have h : rwL kp n cp ty cs = some l := h
    refine runX_calls pr oo hr (base2 w p q) ν ρ w R hI hpc hw fun c hm ν' ρ' w' hag hp' => ?_
    obtain ⟨s, h1, h2⟩ := rwOf_mem h c hm
    obtain ⟨h3, h4⟩ := hc _ h1 ν' ρ' hag hp'
    refine ⟨h3, fun hw' => ?_⟩
    obtain ⟨rest, r1, r2, _⟩ := hw'.ints (hget_mem (h2 h3).1)
    have hq := hn ρ' hag.r
    rw [hq] at r1
    refine h4 w' rest hw'.os hw'.tape hw'.output hw'.size (fun k hk k1 k2 => hw'.kept k ?_) (fun m cs t hkp => ?_) r1 r2
    rotate_left
    · have hk := (h2 h3).2
      subst hkp
      simp only [keptX] at hk
      split at hk
      · rename_i b hb
        have := SBk.beq_eq hk
        subst this
        obtain ⟨r, e1, e2⟩ := hw'.row (hget_mem hb)
        rw [e2 rfl] at e1
        simpa using e1
      · cases hk
    simp only [base2, Base.own]
    intro hh
    rcases hh with hh | hh | hh
    · exact absurd hk (Nat.not_lt.2 hh)
    · exact k1 hh
    · exact k2 hh
end Go.Sy
end
