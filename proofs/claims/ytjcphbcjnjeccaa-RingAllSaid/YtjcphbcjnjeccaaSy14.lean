import Derived.Test.YtjcphbcjnjeccaaSy13
import Derived.JoinedOf
set_option linter.unusedVariables false
set_option linter.unusedSimpArgs false
namespace Go.Sy
open Go

/-! ### a row's closed facts, where the program's sign is long -/
theorem wordsSigns_word (r : List Char) : ∀ (w : List Char), w.all (fun c => !(c == Char.ofNat 32)) = true → wordsSigns (w ++ Char.ofNat 32 :: r) = w :: wordsSigns r
  | [], _ => by simp [wordsSigns]
  | c :: w, h => by
    simp only [List.all_cons, Bool.and_eq_true, Bool.not_eq_true', beq_eq_false_iff_ne] at h
    have ih := wordsSigns_word r w h.2
    rw [List.cons_append, wordsSigns, ih]
    exact h.1

def sgnA : List Char := List.map Char.ofNat [104, 97, 114, 110, 101, 115, 115]
def sgnC : List Char := List.map Char.ofNat [99, 117, 116]
/-- The sign: the harness's word, a sum, 'cut', the rest. -/
def signOf (b r : List Char) : List Char := sgnA ++ Char.ofNat 32 :: (b ++ Char.ofNat 32 :: (sgnC ++ Char.ofNat 32 :: r))

theorem words_of {P : Program} {b r : List Char} (h : P.initOrder = String.ofList (signOf b r)) (hb : b.all (fun c => !(c == Char.ofNat 32)) = true) (hs : isSumSigns b = true) : behindMainWord (wordsSigns P.initOrder.toList) = sgnC :: wordsSigns r := by
  rw [h, String.toList_ofList, signOf, wordsSigns_word _ sgnA (by decide +kernel), wordsSigns_word _ b hb, wordsSigns_word _ sgnC (by decide +kernel)]
  have h : ((sgnA == "harness".toList || sgnA == "ownmain".toList) && isSumSigns b) = true := by rw [hs]; decide +kernel
  simp only [behindMainWord, h, if_true]

theorem make_of {P : Program} {r : List (List Char)} (h : behindMainWord (wordsSigns P.initOrder.toList) = sgnC :: r) : P.make = some .cut := by
  unfold Program.make
  rw [h]
  dsimp only
  rw [if_neg (by decide +kernel), if_pos (by simp only [Bool.or_eq_true]; left; decide +kernel)]

theorem strip_cut (r : List (List Char)) : stripLifts liftWords (sgnC :: r) = ([], sgnC :: r) := by
  have h : ∀ o ∈ liftWords, (sgnC == o.toList) = false := by decide +kernel
  generalize liftWords = l at h
  induction l with
  | nil => rfl
  | cons o os ih =>
    unfold stripLifts
    rw [if_neg (by rw [h o (by simp)]; simp), ih (fun o' h' => h o' (by simp [h']))]

theorem headLifts_of {P : Program} {r : List (List Char)} (h : behindMainWord (wordsSigns P.initOrder.toList) = sgnC :: r) : P.headLifts = [] := by
  unfold Program.headLifts
  rw [h, strip_cut]
  simp

theorem liftsFinal_of {P : Program} {r : List (List Char)} (h : behindMainWord (wordsSigns P.initOrder.toList) = sgnC :: r) : P.liftsFinal = false := by
  unfold Program.liftsFinal
  rw [h, headLifts_of h]
  have h : (sgnC == "carried".toList) = false := by decide +kernel
  simp only [List.head?_cons, List.contains_nil, Bool.or_false]
  have h2 : (some sgnC == some "carried".toList) = false := by decide +kernel
  rw [h2, Bool.false_and]

theorem mayEnter_of {P : Program} {r : List (List Char)} (h : behindMainWord (wordsSigns P.initOrder.toList) = sgnC :: r) (h1 : P.laysLater = false) (h2 : P.bearsReflect = false) (h3 : P.doorFits [] = true) : P.mayEnter = true := by
  unfold Program.mayEnter
  rw [h]
  dsimp only
  rw [strip_cut]
  simp only [h1, h2, h3]
  simp
  exact Or.inr (by decide +kernel)

theorem headOf {P : Program} {r : List (List Char)} (h : behindMainWord (wordsSigns P.initOrder.toList) = sgnC :: r) {c : OpenClaim} (h1 : P.laysLater = false) (h2 : P.bearsReflect = false) (h3 : P.doorFits [] = true) (h4 : c.lifted = false) (h5 : c.make = .cut) :
    P.mayEnter = true ∧ c.lifted = P.liftsFinal ∧ P.make = some c.make :=
  ⟨mayEnter_of h h1 h2 h3, h4.trans (liftsFinal_of h).symm, by rw [make_of h, h5]⟩

/-- The facts of the program alone. -/
structure ProgFacts (P : Program) : Prop where
  laid : laidOutB P = true
  rowed : mapsRowed P = true
  stops : P.stops = []
  knobs : P.stopKnobs = []
  keys : P.plainKeys = true
  heard : P.stopsHeard = true
  enter : P.mayEnter = true
  final : P.liftsFinal = false
  make : P.make = some .cut

theorem joined_of {P : Program} {f : FuncId} {fn : Func} {s : ChangeSpec} {c : OpenClaim} (p : ProgFacts P)
    (a1 : (c.wf (OpenSpec.ofChange s) && fn.params.all (P.readableRec ·) && namedTie P c.named s.vars && s.vars.all (P.varReadable ·)) = true) (a2 : c.stops = [] ∧ c.knobs = [] ∧ c.lifted = false ∧ c.make = .cut ∧ c.plainKeys = true ∧ c.shortTexts = none)
    (b1 : c.inPlace = P.inPlace f) (b2 : c.unfollowed = P.unfollowed f) (b3 : c.recurses = P.recurses f) (b4 : c.named = P.varsNamed f)
    (d1 : ((fn.params.toList ++ s.plain.varTypes P).any (P.mapsRec ·) == c.maps && (fn.params.toList ++ s.plain.varTypes P).any (P.ifacesRec ·) == c.ifaces && P.mapsAmong fn.resultTypes.toList == c.mapsOut) = true)
    (d2 : ((fn.params.toList ++ s.plain.varTypes P).any (P.loopsFrom ·) == c.loops && (fn.params.toList ++ s.plain.varTypes P ++ fn.resultTypes.toList).any (P.wideKeysFrom ·) == c.wideKeys) = true)
    (d3 : (fn.resultTypes.all (fun t => P.readableRec t && decide (t < P.types.size)) && fn.resultTypes.toList.any (P.ifacesRec ·) == c.ifacesOut && fn.resultTypes.toList.any (P.loopsFrom ·) == c.loopsOut) = true)
    (d4 : c.kinds = (if c.domain.isEmpty then [] else fn.params.toList.map fun t => match P.underlying t with | some (.int k) => some k | _ => none) ∧ c.pinned = c.pinnedBy)
    (d5 : ((fn.params.toList ++ s.plain.varTypes P ++ fn.resultTypes.toList).any (P.veiledRec ·) == c.veiled && c.veiledFits P fn.params.toList (fn.params.toList ++ s.plain.varTypes P ++ fn.resultTypes.toList)) = true) : joinedFacts P f fn s c = true := by
  simp only [Bool.and_eq_true, beq_iff_eq] at a1 d1 d2 d3 d5
  simp only [joinedFacts, Bool.and_eq_true, beq_iff_eq]
  obtain ⟨a21, a22, a23, a24, a25, a26⟩ := a2
  simp only [a1, a21, a22, a23, a24, a25, a26, ← b1, ← b2, ← b3, ← b4, d1, d2, d3, d5, d4.1, d4.2, p.laid, p.rowed, p.stops, p.knobs, p.keys, p.heard, p.enter, p.final, p.make, and_self, true_and, and_true, Option.isNone_none]
  rfl
end Go.Sy
