/-
  No cell of these rows narrows 'for every input' (looked for: loops, veiled, ifaces, maps, wideKeys, modest, calm, conditions, laid).
  DERIVED. THE GIVEN ROWS OF THIS SEAT. 28 by the template 'for every input the law returns true; each argument reads behind the call as it read before'; 0 by the template 'total and deterministic' (their statements: YtilmgjbnpcbnfaaTotals.lean).
  GIVEN WITH THE SEED: the statements are not yours to turn. If you find one false, say at which input.
  Laid BY PROGRAM, IN A SANDBOX (cutbox-rows.mjs): the forced cells as the released guide's own fill.sh prints them over the translation f1bd2ab91b2bc737… (all of the seat's roots in one cut). By AI agents, Wed Nov 11 2026. No macro, syntax, notation, axiom, sorry.
-/
import Derived.Test.YtilmgjbnpcbnfaaChecked
import GoSem.Claim
import GoSem.ClaimJoined
import GoSem.ClaimMapViews
import Derived.JoinedTies
import Derived.KernelRfl
namespace Go.Proofs.Ytilmgjbnpcbnfaa
/- THE CELL 'sum', in the pinned program and in every row, IS THE sha256 OF THE DUMP (.gsa) THAT YtilmgjbnpcbnfaaProg.lean LOADS. Nothing in Lean hashes anything: it is a label: what it is worth is what the hold of that sum in a sandbox is worth. -/
noncomputable def Try.pinned : Pinned := { name := "ytilmgjbnpcbnfaa", sum := "f1bd2ab91b2bc73703a79549a63a8dec5a1054e76b151ddb5082527e609ce113", checked := Try.checked }
namespace Rows
def none {H : Type} : Left H := { results := [], args := [] }

/-- 'coachyardlaw12.PlanParts': WHATEVER THE INPUT: true; the input reads as it did. -/
def planPartsSpec : ChangeSpec := { name := "planParts", fn := fun _ => fun
  | [d1, d2] => { results := [.lit (.bool true)], args := [d1, d2] }
  | _ => none }
def planPartsRow : OpenClaim := { program := "ytilmgjbnpcbnfaa", sum := "f1bd2ab91b2bc73703a79549a63a8dec5a1054e76b151ddb5082527e609ce113", func := "coachyard/coachyardlaw12.PlanParts", spec := "planParts", apart := false }
def PlanPartsSaid : Prop := planPartsRow.holds Try.pinned (OpenSpec.ofChange planPartsSpec)

/-- ITS FALSE NEIGHBOUR: 'it returns false'. Refute it at one input. -/
def planPartsWrong : ChangeSpec := { name := "planParts", fn := fun _ => fun
  | [d1, d2] => { results := [.lit (.bool false)], args := [d1, d2] }
  | _ => none }
def PlanPartsWrongFalsely : Prop := planPartsRow.holds Try.pinned (OpenSpec.ofChange planPartsWrong)

/-- 'coachyardlaw03.CellsPlay': WHATEVER THE INPUT: true; the input reads as it did. -/
def cellsPlaySpec : ChangeSpec := { name := "cellsPlay", fn := fun _ => fun
  | [d1, d2] => { results := [.lit (.bool true)], args := [d1, d2] }
  | _ => none }
def cellsPlayRow : OpenClaim := { program := "ytilmgjbnpcbnfaa", sum := "f1bd2ab91b2bc73703a79549a63a8dec5a1054e76b151ddb5082527e609ce113", func := "coachyard/coachyardlaw03.CellsPlay", spec := "cellsPlay", unfollowed := true, recurses := true, apart := false }
def CellsPlaySaid : Prop := cellsPlayRow.holds Try.pinned (OpenSpec.ofChange cellsPlaySpec)

/-- ITS FALSE NEIGHBOUR: 'it returns false'. Refute it at one input. -/
def cellsPlayWrong : ChangeSpec := { name := "cellsPlay", fn := fun _ => fun
  | [d1, d2] => { results := [.lit (.bool false)], args := [d1, d2] }
  | _ => none }
def CellsPlayWrongFalsely : Prop := cellsPlayRow.holds Try.pinned (OpenSpec.ofChange cellsPlayWrong)

/-- 'coachyardlaw03.CellsApart': WHATEVER THE INPUT: true; the input reads as it did. -/
def cellsApartSpec : ChangeSpec := { name := "cellsApart", fn := fun _ => fun
  | [d1, d2, d3] => { results := [.lit (.bool true)], args := [d1, d2, d3] }
  | _ => none }
def cellsApartRow : OpenClaim := { program := "ytilmgjbnpcbnfaa", sum := "f1bd2ab91b2bc73703a79549a63a8dec5a1054e76b151ddb5082527e609ce113", func := "coachyard/coachyardlaw03.CellsApart", spec := "cellsApart", unfollowed := true, recurses := true, apart := false }
def CellsApartSaid : Prop := cellsApartRow.holds Try.pinned (OpenSpec.ofChange cellsApartSpec)

/-- ITS FALSE NEIGHBOUR: 'it returns false'. Refute it at one input. -/
def cellsApartWrong : ChangeSpec := { name := "cellsApart", fn := fun _ => fun
  | [d1, d2, d3] => { results := [.lit (.bool false)], args := [d1, d2, d3] }
  | _ => none }
def CellsApartWrongFalsely : Prop := cellsApartRow.holds Try.pinned (OpenSpec.ofChange cellsApartWrong)

/-- 'coachyardlaw03.CellsFill': WHATEVER THE INPUT: true; the input reads as it did. -/
def cellsFillSpec : ChangeSpec := { name := "cellsFill", fn := fun _ => fun
  | [d1, d2, d3] => { results := [.lit (.bool true)], args := [d1, d2, d3] }
  | _ => none }
def cellsFillRow : OpenClaim := { program := "ytilmgjbnpcbnfaa", sum := "f1bd2ab91b2bc73703a79549a63a8dec5a1054e76b151ddb5082527e609ce113", func := "coachyard/coachyardlaw03.CellsFill", spec := "cellsFill", unfollowed := true, recurses := true, apart := false }
def CellsFillSaid : Prop := cellsFillRow.holds Try.pinned (OpenSpec.ofChange cellsFillSpec)

/-- ITS FALSE NEIGHBOUR: 'it returns false'. Refute it at one input. -/
def cellsFillWrong : ChangeSpec := { name := "cellsFill", fn := fun _ => fun
  | [d1, d2, d3] => { results := [.lit (.bool false)], args := [d1, d2, d3] }
  | _ => none }
def CellsFillWrongFalsely : Prop := cellsFillRow.holds Try.pinned (OpenSpec.ofChange cellsFillWrong)

/-- 'coachyardlaw03.CellsNil': WHATEVER THE INPUT: true; the input reads as it did. -/
def cellsNilSpec : ChangeSpec := { name := "cellsNil", fn := fun _ => fun
  | [d1, d2] => { results := [.lit (.bool true)], args := [d1, d2] }
  | _ => none }
def cellsNilRow : OpenClaim := { program := "ytilmgjbnpcbnfaa", sum := "f1bd2ab91b2bc73703a79549a63a8dec5a1054e76b151ddb5082527e609ce113", func := "coachyard/coachyardlaw03.CellsNil", spec := "cellsNil", unfollowed := true, recurses := true, apart := false }
def CellsNilSaid : Prop := cellsNilRow.holds Try.pinned (OpenSpec.ofChange cellsNilSpec)

/-- ITS FALSE NEIGHBOUR: 'it returns false'. Refute it at one input. -/
def cellsNilWrong : ChangeSpec := { name := "cellsNil", fn := fun _ => fun
  | [d1, d2] => { results := [.lit (.bool false)], args := [d1, d2] }
  | _ => none }
def CellsNilWrongFalsely : Prop := cellsNilRow.holds Try.pinned (OpenSpec.ofChange cellsNilWrong)

/-- 'coachyardlaw12.PlanZero': WHATEVER THE INPUT: true; the input reads as it did. -/
def planZeroSpec : ChangeSpec := { name := "planZero", fn := fun _ => fun
  | [d] => { results := [.lit (.bool true)], args := [d] }
  | _ => none }
def planZeroRow : OpenClaim := { program := "ytilmgjbnpcbnfaa", sum := "f1bd2ab91b2bc73703a79549a63a8dec5a1054e76b151ddb5082527e609ce113", func := "coachyard/coachyardlaw12.PlanZero", spec := "planZero", unfollowed := true, recurses := true, apart := false }
def PlanZeroSaid : Prop := planZeroRow.holds Try.pinned (OpenSpec.ofChange planZeroSpec)

/-- ITS FALSE NEIGHBOUR: 'it returns false'. Refute it at one input. -/
def planZeroWrong : ChangeSpec := { name := "planZero", fn := fun _ => fun
  | [d] => { results := [.lit (.bool false)], args := [d] }
  | _ => none }
def PlanZeroWrongFalsely : Prop := planZeroRow.holds Try.pinned (OpenSpec.ofChange planZeroWrong)

/-- 'coachyardlaw12.PlanInits': WHATEVER THE INPUT: true; the input reads as it did. -/
def planInitsSpec : ChangeSpec := { name := "planInits", fn := fun _ => fun
  | [d] => { results := [.lit (.bool true)], args := [d] }
  | _ => none }
def planInitsRow : OpenClaim := { program := "ytilmgjbnpcbnfaa", sum := "f1bd2ab91b2bc73703a79549a63a8dec5a1054e76b151ddb5082527e609ce113", func := "coachyard/coachyardlaw12.PlanInits", spec := "planInits", unfollowed := true, recurses := true, apart := false }
def PlanInitsSaid : Prop := planInitsRow.holds Try.pinned (OpenSpec.ofChange planInitsSpec)

/-- ITS FALSE NEIGHBOUR: 'it returns false'. Refute it at one input. -/
def planInitsWrong : ChangeSpec := { name := "planInits", fn := fun _ => fun
  | [d] => { results := [.lit (.bool false)], args := [d] }
  | _ => none }
def PlanInitsWrongFalsely : Prop := planInitsRow.holds Try.pinned (OpenSpec.ofChange planInitsWrong)

/-- 'coachyardlaw06.ArenaAlone': WHATEVER THE INPUT: true; the input reads as it did. -/
def arenaAloneSpec : ChangeSpec := { name := "arenaAlone", fn := fun _ => fun
  | [d1, d2] => { results := [.lit (.bool true)], args := [d1, d2] }
  | _ => none }
def arenaAloneRow : OpenClaim := { program := "ytilmgjbnpcbnfaa", sum := "f1bd2ab91b2bc73703a79549a63a8dec5a1054e76b151ddb5082527e609ce113", func := "coachyard/coachyardlaw06.ArenaAlone", spec := "arenaAlone", unfollowed := true, recurses := true, apart := false }
def ArenaAloneSaid : Prop := arenaAloneRow.holds Try.pinned (OpenSpec.ofChange arenaAloneSpec)

/-- ITS FALSE NEIGHBOUR: 'it returns false'. Refute it at one input. -/
def arenaAloneWrong : ChangeSpec := { name := "arenaAlone", fn := fun _ => fun
  | [d1, d2] => { results := [.lit (.bool false)], args := [d1, d2] }
  | _ => none }
def ArenaAloneWrongFalsely : Prop := arenaAloneRow.holds Try.pinned (OpenSpec.ofChange arenaAloneWrong)

/-- 'coachyardlaw06.ArenaInits': WHATEVER THE INPUT: true; the input reads as it did. -/
def arenaInitsSpec : ChangeSpec := { name := "arenaInits", fn := fun _ => fun
  | [d1, d2, d3, d4] => { results := [.lit (.bool true)], args := [d1, d2, d3, d4] }
  | _ => none }
def arenaInitsRow : OpenClaim := { program := "ytilmgjbnpcbnfaa", sum := "f1bd2ab91b2bc73703a79549a63a8dec5a1054e76b151ddb5082527e609ce113", func := "coachyard/coachyardlaw06.ArenaInits", spec := "arenaInits", unfollowed := true, recurses := true, apart := false }
def ArenaInitsSaid : Prop := arenaInitsRow.holds Try.pinned (OpenSpec.ofChange arenaInitsSpec)

/-- ITS FALSE NEIGHBOUR: 'it returns false'. Refute it at one input. -/
def arenaInitsWrong : ChangeSpec := { name := "arenaInits", fn := fun _ => fun
  | [d1, d2, d3, d4] => { results := [.lit (.bool false)], args := [d1, d2, d3, d4] }
  | _ => none }
def ArenaInitsWrongFalsely : Prop := arenaInitsRow.holds Try.pinned (OpenSpec.ofChange arenaInitsWrong)

/-- 'coachyardlaw32.LanePlays': WHATEVER THE INPUT: true; the input reads as it did. -/
def lanePlaysSpec : ChangeSpec := { name := "lanePlays", fn := fun _ => fun
  | [d1, d2, d3, d4] => { results := [.lit (.bool true)], args := [d1, d2, d3, d4] }
  | _ => none }
def lanePlaysRow : OpenClaim := { program := "ytilmgjbnpcbnfaa", sum := "f1bd2ab91b2bc73703a79549a63a8dec5a1054e76b151ddb5082527e609ce113", func := "coachyard/coachyardlaw32.LanePlays", spec := "lanePlays", unfollowed := true, recurses := true, apart := false }
def LanePlaysSaid : Prop := lanePlaysRow.holds Try.pinned (OpenSpec.ofChange lanePlaysSpec)

/-- ITS FALSE NEIGHBOUR: 'it returns false'. Refute it at one input. -/
def lanePlaysWrong : ChangeSpec := { name := "lanePlays", fn := fun _ => fun
  | [d1, d2, d3, d4] => { results := [.lit (.bool false)], args := [d1, d2, d3, d4] }
  | _ => none }
def LanePlaysWrongFalsely : Prop := lanePlaysRow.holds Try.pinned (OpenSpec.ofChange lanePlaysWrong)

/-- 'coachyardlaw32.LaneAlone': WHATEVER THE INPUT: true; the input reads as it did. -/
def laneAloneSpec : ChangeSpec := { name := "laneAlone", fn := fun _ => fun
  | [d1, d2, d3] => { results := [.lit (.bool true)], args := [d1, d2, d3] }
  | _ => none }
def laneAloneRow : OpenClaim := { program := "ytilmgjbnpcbnfaa", sum := "f1bd2ab91b2bc73703a79549a63a8dec5a1054e76b151ddb5082527e609ce113", func := "coachyard/coachyardlaw32.LaneAlone", spec := "laneAlone", unfollowed := true, recurses := true, apart := false }
def LaneAloneSaid : Prop := laneAloneRow.holds Try.pinned (OpenSpec.ofChange laneAloneSpec)

/-- ITS FALSE NEIGHBOUR: 'it returns false'. Refute it at one input. -/
def laneAloneWrong : ChangeSpec := { name := "laneAlone", fn := fun _ => fun
  | [d1, d2, d3] => { results := [.lit (.bool false)], args := [d1, d2, d3] }
  | _ => none }
def LaneAloneWrongFalsely : Prop := laneAloneRow.holds Try.pinned (OpenSpec.ofChange laneAloneWrong)

/-- 'coachyardlaw06.ArenaOnce': WHATEVER THE INPUT: true; the input reads as it did. -/
def arenaOnceSpec : ChangeSpec := { name := "arenaOnce", fn := fun _ => fun
  | [d1, d2, d3] => { results := [.lit (.bool true)], args := [d1, d2, d3] }
  | _ => none }
def arenaOnceRow : OpenClaim := { program := "ytilmgjbnpcbnfaa", sum := "f1bd2ab91b2bc73703a79549a63a8dec5a1054e76b151ddb5082527e609ce113", func := "coachyard/coachyardlaw06.ArenaOnce", spec := "arenaOnce", unfollowed := true, recurses := true, apart := false }
def ArenaOnceSaid : Prop := arenaOnceRow.holds Try.pinned (OpenSpec.ofChange arenaOnceSpec)

/-- ITS FALSE NEIGHBOUR: 'it returns false'. Refute it at one input. -/
def arenaOnceWrong : ChangeSpec := { name := "arenaOnce", fn := fun _ => fun
  | [d1, d2, d3] => { results := [.lit (.bool false)], args := [d1, d2, d3] }
  | _ => none }
def ArenaOnceWrongFalsely : Prop := arenaOnceRow.holds Try.pinned (OpenSpec.ofChange arenaOnceWrong)

/-- 'coachyardlaw32.LaneAll': WHATEVER THE INPUT: true; the input reads as it did. -/
def laneAllSpec : ChangeSpec := { name := "laneAll", fn := fun _ => fun
  | [d1, d2, d3] => { results := [.lit (.bool true)], args := [d1, d2, d3] }
  | _ => none }
def laneAllRow : OpenClaim := { program := "ytilmgjbnpcbnfaa", sum := "f1bd2ab91b2bc73703a79549a63a8dec5a1054e76b151ddb5082527e609ce113", func := "coachyard/coachyardlaw32.LaneAll", spec := "laneAll", unfollowed := true, recurses := true, apart := false }
def LaneAllSaid : Prop := laneAllRow.holds Try.pinned (OpenSpec.ofChange laneAllSpec)

/-- ITS FALSE NEIGHBOUR: 'it returns false'. Refute it at one input. -/
def laneAllWrong : ChangeSpec := { name := "laneAll", fn := fun _ => fun
  | [d1, d2, d3] => { results := [.lit (.bool false)], args := [d1, d2, d3] }
  | _ => none }
def LaneAllWrongFalsely : Prop := laneAllRow.holds Try.pinned (OpenSpec.ofChange laneAllWrong)

/-- 'coachyardlaw32.LaneSteps': WHATEVER THE INPUT: true; the input reads as it did. -/
def laneStepsSpec : ChangeSpec := { name := "laneSteps", fn := fun _ => fun
  | [d1, d2, d3] => { results := [.lit (.bool true)], args := [d1, d2, d3] }
  | _ => none }
def laneStepsRow : OpenClaim := { program := "ytilmgjbnpcbnfaa", sum := "f1bd2ab91b2bc73703a79549a63a8dec5a1054e76b151ddb5082527e609ce113", func := "coachyard/coachyardlaw32.LaneSteps", spec := "laneSteps", unfollowed := true, recurses := true, apart := false }
def LaneStepsSaid : Prop := laneStepsRow.holds Try.pinned (OpenSpec.ofChange laneStepsSpec)

/-- ITS FALSE NEIGHBOUR: 'it returns false'. Refute it at one input. -/
def laneStepsWrong : ChangeSpec := { name := "laneSteps", fn := fun _ => fun
  | [d1, d2, d3] => { results := [.lit (.bool false)], args := [d1, d2, d3] }
  | _ => none }
def LaneStepsWrongFalsely : Prop := laneStepsRow.holds Try.pinned (OpenSpec.ofChange laneStepsWrong)

/-- 'coachyardlaw06.ArenaSteps': WHATEVER THE INPUT: true; the input reads as it did. -/
def arenaStepsSpec : ChangeSpec := { name := "arenaSteps", fn := fun _ => fun
  | [d1, d2, d3] => { results := [.lit (.bool true)], args := [d1, d2, d3] }
  | _ => none }
def arenaStepsRow : OpenClaim := { program := "ytilmgjbnpcbnfaa", sum := "f1bd2ab91b2bc73703a79549a63a8dec5a1054e76b151ddb5082527e609ce113", func := "coachyard/coachyardlaw06.ArenaSteps", spec := "arenaSteps", unfollowed := true, recurses := true, apart := false }
def ArenaStepsSaid : Prop := arenaStepsRow.holds Try.pinned (OpenSpec.ofChange arenaStepsSpec)

/-- ITS FALSE NEIGHBOUR: 'it returns false'. Refute it at one input. -/
def arenaStepsWrong : ChangeSpec := { name := "arenaSteps", fn := fun _ => fun
  | [d1, d2, d3] => { results := [.lit (.bool false)], args := [d1, d2, d3] }
  | _ => none }
def ArenaStepsWrongFalsely : Prop := arenaStepsRow.holds Try.pinned (OpenSpec.ofChange arenaStepsWrong)

/-- 'coachyardlaw07.DequeSteps': WHATEVER THE INPUT: true; the input reads as it did. -/
def dequeStepsSpec : ChangeSpec := { name := "dequeSteps", fn := fun _ => fun
  | [d1, d2, d3] => { results := [.lit (.bool true)], args := [d1, d2, d3] }
  | _ => none }
def dequeStepsRow : OpenClaim := { program := "ytilmgjbnpcbnfaa", sum := "f1bd2ab91b2bc73703a79549a63a8dec5a1054e76b151ddb5082527e609ce113", func := "coachyard/coachyardlaw07.DequeSteps", spec := "dequeSteps", unfollowed := true, recurses := true, apart := false }
def DequeStepsSaid : Prop := dequeStepsRow.holds Try.pinned (OpenSpec.ofChange dequeStepsSpec)

/-- ITS FALSE NEIGHBOUR: 'it returns false'. Refute it at one input. -/
def dequeStepsWrong : ChangeSpec := { name := "dequeSteps", fn := fun _ => fun
  | [d1, d2, d3] => { results := [.lit (.bool false)], args := [d1, d2, d3] }
  | _ => none }
def DequeStepsWrongFalsely : Prop := dequeStepsRow.holds Try.pinned (OpenSpec.ofChange dequeStepsWrong)

/-- 'coachyardlaw07.DequeSteals': WHATEVER THE INPUT: true; the input reads as it did. -/
def dequeStealsSpec : ChangeSpec := { name := "dequeSteals", fn := fun _ => fun
  | [d1, d2, d3] => { results := [.lit (.bool true)], args := [d1, d2, d3] }
  | _ => none }
def dequeStealsRow : OpenClaim := { program := "ytilmgjbnpcbnfaa", sum := "f1bd2ab91b2bc73703a79549a63a8dec5a1054e76b151ddb5082527e609ce113", func := "coachyard/coachyardlaw07.DequeSteals", spec := "dequeSteals", unfollowed := true, recurses := true, apart := false }
def DequeStealsSaid : Prop := dequeStealsRow.holds Try.pinned (OpenSpec.ofChange dequeStealsSpec)

/-- ITS FALSE NEIGHBOUR: 'it returns false'. Refute it at one input. -/
def dequeStealsWrong : ChangeSpec := { name := "dequeSteals", fn := fun _ => fun
  | [d1, d2, d3] => { results := [.lit (.bool false)], args := [d1, d2, d3] }
  | _ => none }
def DequeStealsWrongFalsely : Prop := dequeStealsRow.holds Try.pinned (OpenSpec.ofChange dequeStealsWrong)

/-- 'coachyardlaw07.DequeAll': WHATEVER THE INPUT: true; the input reads as it did. -/
def dequeAllSpec : ChangeSpec := { name := "dequeAll", fn := fun _ => fun
  | [d1, d2] => { results := [.lit (.bool true)], args := [d1, d2] }
  | _ => none }
def dequeAllRow : OpenClaim := { program := "ytilmgjbnpcbnfaa", sum := "f1bd2ab91b2bc73703a79549a63a8dec5a1054e76b151ddb5082527e609ce113", func := "coachyard/coachyardlaw07.DequeAll", spec := "dequeAll", unfollowed := true, recurses := true, apart := false }
def DequeAllSaid : Prop := dequeAllRow.holds Try.pinned (OpenSpec.ofChange dequeAllSpec)

/-- ITS FALSE NEIGHBOUR: 'it returns false'. Refute it at one input. -/
def dequeAllWrong : ChangeSpec := { name := "dequeAll", fn := fun _ => fun
  | [d1, d2] => { results := [.lit (.bool false)], args := [d1, d2] }
  | _ => none }
def DequeAllWrongFalsely : Prop := dequeAllRow.holds Try.pinned (OpenSpec.ofChange dequeAllWrong)

/-- 'coachyardlaw07.DequePlays': WHATEVER THE INPUT: true; the input reads as it did. -/
def dequePlaysSpec : ChangeSpec := { name := "dequePlays", fn := fun _ => fun
  | [d1, d2, d3, d4] => { results := [.lit (.bool true)], args := [d1, d2, d3, d4] }
  | _ => none }
def dequePlaysRow : OpenClaim := { program := "ytilmgjbnpcbnfaa", sum := "f1bd2ab91b2bc73703a79549a63a8dec5a1054e76b151ddb5082527e609ce113", func := "coachyard/coachyardlaw07.DequePlays", spec := "dequePlays", unfollowed := true, recurses := true, apart := false }
def DequePlaysSaid : Prop := dequePlaysRow.holds Try.pinned (OpenSpec.ofChange dequePlaysSpec)

/-- ITS FALSE NEIGHBOUR: 'it returns false'. Refute it at one input. -/
def dequePlaysWrong : ChangeSpec := { name := "dequePlays", fn := fun _ => fun
  | [d1, d2, d3, d4] => { results := [.lit (.bool false)], args := [d1, d2, d3, d4] }
  | _ => none }
def DequePlaysWrongFalsely : Prop := dequePlaysRow.holds Try.pinned (OpenSpec.ofChange dequePlaysWrong)

/-- 'coachyardlaw07.DequeAlone': WHATEVER THE INPUT: true; the input reads as it did. -/
def dequeAloneSpec : ChangeSpec := { name := "dequeAlone", fn := fun _ => fun
  | [d1, d2, d3] => { results := [.lit (.bool true)], args := [d1, d2, d3] }
  | _ => none }
def dequeAloneRow : OpenClaim := { program := "ytilmgjbnpcbnfaa", sum := "f1bd2ab91b2bc73703a79549a63a8dec5a1054e76b151ddb5082527e609ce113", func := "coachyard/coachyardlaw07.DequeAlone", spec := "dequeAlone", unfollowed := true, recurses := true, apart := false }
def DequeAloneSaid : Prop := dequeAloneRow.holds Try.pinned (OpenSpec.ofChange dequeAloneSpec)

/-- ITS FALSE NEIGHBOUR: 'it returns false'. Refute it at one input. -/
def dequeAloneWrong : ChangeSpec := { name := "dequeAlone", fn := fun _ => fun
  | [d1, d2, d3] => { results := [.lit (.bool false)], args := [d1, d2, d3] }
  | _ => none }
def DequeAloneWrongFalsely : Prop := dequeAloneRow.holds Try.pinned (OpenSpec.ofChange dequeAloneWrong)

/-- 'coachyardlaw08.RingAll': WHATEVER THE INPUT: true; the input reads as it did. -/
def ringAllSpec : ChangeSpec := { name := "ringAll", fn := fun _ => fun
  | [d1, d2] => { results := [.lit (.bool true)], args := [d1, d2] }
  | _ => none }
def ringAllRow : OpenClaim := { program := "ytilmgjbnpcbnfaa", sum := "f1bd2ab91b2bc73703a79549a63a8dec5a1054e76b151ddb5082527e609ce113", func := "coachyard/coachyardlaw08.RingAll", spec := "ringAll", unfollowed := true, recurses := true, apart := false }
def RingAllSaid : Prop := ringAllRow.holds Try.pinned (OpenSpec.ofChange ringAllSpec)

/-- ITS FALSE NEIGHBOUR: 'it returns false'. Refute it at one input. -/
def ringAllWrong : ChangeSpec := { name := "ringAll", fn := fun _ => fun
  | [d1, d2] => { results := [.lit (.bool false)], args := [d1, d2] }
  | _ => none }
def RingAllWrongFalsely : Prop := ringAllRow.holds Try.pinned (OpenSpec.ofChange ringAllWrong)

/-- 'coachyardlaw08.RingPlays': WHATEVER THE INPUT: true; the input reads as it did. -/
def ringPlaysSpec : ChangeSpec := { name := "ringPlays", fn := fun _ => fun
  | [d1, d2, d3, d4] => { results := [.lit (.bool true)], args := [d1, d2, d3, d4] }
  | _ => none }
def ringPlaysRow : OpenClaim := { program := "ytilmgjbnpcbnfaa", sum := "f1bd2ab91b2bc73703a79549a63a8dec5a1054e76b151ddb5082527e609ce113", func := "coachyard/coachyardlaw08.RingPlays", spec := "ringPlays", unfollowed := true, recurses := true, apart := false }
def RingPlaysSaid : Prop := ringPlaysRow.holds Try.pinned (OpenSpec.ofChange ringPlaysSpec)

/-- ITS FALSE NEIGHBOUR: 'it returns false'. Refute it at one input. -/
def ringPlaysWrong : ChangeSpec := { name := "ringPlays", fn := fun _ => fun
  | [d1, d2, d3, d4] => { results := [.lit (.bool false)], args := [d1, d2, d3, d4] }
  | _ => none }
def RingPlaysWrongFalsely : Prop := ringPlaysRow.holds Try.pinned (OpenSpec.ofChange ringPlaysWrong)

/-- 'coachyardlaw08.RingAlone': WHATEVER THE INPUT: true; the input reads as it did. -/
def ringAloneSpec : ChangeSpec := { name := "ringAlone", fn := fun _ => fun
  | [d1, d2, d3] => { results := [.lit (.bool true)], args := [d1, d2, d3] }
  | _ => none }
def ringAloneRow : OpenClaim := { program := "ytilmgjbnpcbnfaa", sum := "f1bd2ab91b2bc73703a79549a63a8dec5a1054e76b151ddb5082527e609ce113", func := "coachyard/coachyardlaw08.RingAlone", spec := "ringAlone", unfollowed := true, recurses := true, apart := false }
def RingAloneSaid : Prop := ringAloneRow.holds Try.pinned (OpenSpec.ofChange ringAloneSpec)

/-- ITS FALSE NEIGHBOUR: 'it returns false'. Refute it at one input. -/
def ringAloneWrong : ChangeSpec := { name := "ringAlone", fn := fun _ => fun
  | [d1, d2, d3] => { results := [.lit (.bool false)], args := [d1, d2, d3] }
  | _ => none }
def RingAloneWrongFalsely : Prop := ringAloneRow.holds Try.pinned (OpenSpec.ofChange ringAloneWrong)

/-- 'coachyardlaw09.QueueOrder': WHATEVER THE INPUT: true; the input reads as it did. -/
def queueOrderSpec : ChangeSpec := { name := "queueOrder", fn := fun _ => fun
  | [d1, d2, d3] => { results := [.lit (.bool true)], args := [d1, d2, d3] }
  | _ => none }
def queueOrderRow : OpenClaim := { program := "ytilmgjbnpcbnfaa", sum := "f1bd2ab91b2bc73703a79549a63a8dec5a1054e76b151ddb5082527e609ce113", func := "coachyard/coachyardlaw09.QueueOrder", spec := "queueOrder", unfollowed := true, recurses := true, apart := false }
def QueueOrderSaid : Prop := queueOrderRow.holds Try.pinned (OpenSpec.ofChange queueOrderSpec)

/-- ITS FALSE NEIGHBOUR: 'it returns false'. Refute it at one input. -/
def queueOrderWrong : ChangeSpec := { name := "queueOrder", fn := fun _ => fun
  | [d1, d2, d3] => { results := [.lit (.bool false)], args := [d1, d2, d3] }
  | _ => none }
def QueueOrderWrongFalsely : Prop := queueOrderRow.holds Try.pinned (OpenSpec.ofChange queueOrderWrong)

/-- 'coachyardlaw09.QueueInits': WHATEVER THE INPUT: true; the input reads as it did. -/
def queueInitsSpec : ChangeSpec := { name := "queueInits", fn := fun _ => fun
  | [d1, d2, d3] => { results := [.lit (.bool true)], args := [d1, d2, d3] }
  | _ => none }
def queueInitsRow : OpenClaim := { program := "ytilmgjbnpcbnfaa", sum := "f1bd2ab91b2bc73703a79549a63a8dec5a1054e76b151ddb5082527e609ce113", func := "coachyard/coachyardlaw09.QueueInits", spec := "queueInits", unfollowed := true, recurses := true, apart := false }
def QueueInitsSaid : Prop := queueInitsRow.holds Try.pinned (OpenSpec.ofChange queueInitsSpec)

/-- ITS FALSE NEIGHBOUR: 'it returns false'. Refute it at one input. -/
def queueInitsWrong : ChangeSpec := { name := "queueInits", fn := fun _ => fun
  | [d1, d2, d3] => { results := [.lit (.bool false)], args := [d1, d2, d3] }
  | _ => none }
def QueueInitsWrongFalsely : Prop := queueInitsRow.holds Try.pinned (OpenSpec.ofChange queueInitsWrong)

/-- 'coachyardlaw09.QueueAll': WHATEVER THE INPUT: true; the input reads as it did. -/
def queueAllSpec : ChangeSpec := { name := "queueAll", fn := fun _ => fun
  | [d1, d2] => { results := [.lit (.bool true)], args := [d1, d2] }
  | _ => none }
def queueAllRow : OpenClaim := { program := "ytilmgjbnpcbnfaa", sum := "f1bd2ab91b2bc73703a79549a63a8dec5a1054e76b151ddb5082527e609ce113", func := "coachyard/coachyardlaw09.QueueAll", spec := "queueAll", unfollowed := true, recurses := true, apart := false }
def QueueAllSaid : Prop := queueAllRow.holds Try.pinned (OpenSpec.ofChange queueAllSpec)

/-- ITS FALSE NEIGHBOUR: 'it returns false'. Refute it at one input. -/
def queueAllWrong : ChangeSpec := { name := "queueAll", fn := fun _ => fun
  | [d1, d2] => { results := [.lit (.bool false)], args := [d1, d2] }
  | _ => none }
def QueueAllWrongFalsely : Prop := queueAllRow.holds Try.pinned (OpenSpec.ofChange queueAllWrong)

/-- 'coachyardlaw09.QueuePlays': WHATEVER THE INPUT: true; the input reads as it did. -/
def queuePlaysSpec : ChangeSpec := { name := "queuePlays", fn := fun _ => fun
  | [d1, d2, d3] => { results := [.lit (.bool true)], args := [d1, d2, d3] }
  | _ => none }
def queuePlaysRow : OpenClaim := { program := "ytilmgjbnpcbnfaa", sum := "f1bd2ab91b2bc73703a79549a63a8dec5a1054e76b151ddb5082527e609ce113", func := "coachyard/coachyardlaw09.QueuePlays", spec := "queuePlays", unfollowed := true, recurses := true, apart := false }
def QueuePlaysSaid : Prop := queuePlaysRow.holds Try.pinned (OpenSpec.ofChange queuePlaysSpec)

/-- ITS FALSE NEIGHBOUR: 'it returns false'. Refute it at one input. -/
def queuePlaysWrong : ChangeSpec := { name := "queuePlays", fn := fun _ => fun
  | [d1, d2, d3] => { results := [.lit (.bool false)], args := [d1, d2, d3] }
  | _ => none }
def QueuePlaysWrongFalsely : Prop := queuePlaysRow.holds Try.pinned (OpenSpec.ofChange queuePlaysWrong)

/-- 'coachyardlaw09.QueueAlone': WHATEVER THE INPUT: true; the input reads as it did. -/
def queueAloneSpec : ChangeSpec := { name := "queueAlone", fn := fun _ => fun
  | [d1, d2] => { results := [.lit (.bool true)], args := [d1, d2] }
  | _ => none }
def queueAloneRow : OpenClaim := { program := "ytilmgjbnpcbnfaa", sum := "f1bd2ab91b2bc73703a79549a63a8dec5a1054e76b151ddb5082527e609ce113", func := "coachyard/coachyardlaw09.QueueAlone", spec := "queueAlone", unfollowed := true, recurses := true, apart := false }
def QueueAloneSaid : Prop := queueAloneRow.holds Try.pinned (OpenSpec.ofChange queueAloneSpec)

/-- ITS FALSE NEIGHBOUR: 'it returns false'. Refute it at one input. -/
def queueAloneWrong : ChangeSpec := { name := "queueAlone", fn := fun _ => fun
  | [d1, d2] => { results := [.lit (.bool false)], args := [d1, d2] }
  | _ => none }
def QueueAloneWrongFalsely : Prop := queueAloneRow.holds Try.pinned (OpenSpec.ofChange queueAloneWrong)

/- THE SECOND FORM. 'bulk': how many values and letters a reading holds, each counted each time it is reached (what is shared counts as often as it is met; a slice's spare places count too). A statement '..UptoSaid' is the law's where the arguments, and the package variables that the reading takes, are together of bulk at most 1048576: NARROWER than '..Said'. Prove '..Said' where nothing that the law and all that it calls make is longer than what came in: it says more and counts as full. Else prove '..UptoSaid'. A law counts once. -/
mutual
def uptoBulk {H : Type} : DataW H → Nat
  | .lit (.string bytes) => bytes.length + 1
  | .lit _ => 1
  | .nil => 1
  | .ptr d => uptoBulk d + 1
  | .slice elems spare => uptoBulkAll elems + uptoBulkAll spare + 1
  | .agg parts => uptoBulkAll parts + 1
  | .iface _ d => uptoBulk d + 1
  | .map entries => uptoBulkEntries entries + 1
  | .held _ => 1
def uptoBulkAll {H : Type} : List (DataW H) → Nat
  | [] => 0
  | d :: r => uptoBulk d + uptoBulkAll r
def uptoBulkEntries {H : Type} : List (Lit × DataW H) → Nat
  | [] => 0
  | x :: r => uptoBulkEntry x + uptoBulkEntries r
def uptoBulkEntry {H : Type} : Lit × DataW H → Nat
  | (.string bytes, d) => bytes.length + uptoBulk d + 1
  | (_, d) => uptoBulk d + 1
 end
def uptoSmall : (H : Type) → List (DataW H) → Bool := fun _ ds => decide (uptoBulkAll ds ≤ 1048576)
def OpenSpec.upto (s : _root_.Go.ChangeSpec) : _root_.Go.OpenSpec := { _root_.Go.OpenSpec.ofChange s with cond := some uptoSmall }

/-- 'coachyardlaw12.PlanParts', WHERE WHAT IT READS IS OF BULK AT MOST 1048576: true; the input reads as it did. -/
def planPartsUptoRow : OpenClaim := { program := "ytilmgjbnpcbnfaa", sum := "f1bd2ab91b2bc73703a79549a63a8dec5a1054e76b151ddb5082527e609ce113", func := "coachyard/coachyardlaw12.PlanParts", spec := "planParts", apart := false, narrowed := true }
def PlanPartsUptoSaid : Prop := planPartsUptoRow.holds Try.pinned (OpenSpec.upto planPartsSpec)

/-- 'coachyardlaw03.CellsPlay', WHERE WHAT IT READS IS OF BULK AT MOST 1048576: true; the input reads as it did. -/
def cellsPlayUptoRow : OpenClaim := { program := "ytilmgjbnpcbnfaa", sum := "f1bd2ab91b2bc73703a79549a63a8dec5a1054e76b151ddb5082527e609ce113", func := "coachyard/coachyardlaw03.CellsPlay", spec := "cellsPlay", unfollowed := true, recurses := true, apart := false, narrowed := true }
def CellsPlayUptoSaid : Prop := cellsPlayUptoRow.holds Try.pinned (OpenSpec.upto cellsPlaySpec)

/-- 'coachyardlaw03.CellsApart', WHERE WHAT IT READS IS OF BULK AT MOST 1048576: true; the input reads as it did. -/
def cellsApartUptoRow : OpenClaim := { program := "ytilmgjbnpcbnfaa", sum := "f1bd2ab91b2bc73703a79549a63a8dec5a1054e76b151ddb5082527e609ce113", func := "coachyard/coachyardlaw03.CellsApart", spec := "cellsApart", unfollowed := true, recurses := true, apart := false, narrowed := true }
def CellsApartUptoSaid : Prop := cellsApartUptoRow.holds Try.pinned (OpenSpec.upto cellsApartSpec)

/-- 'coachyardlaw03.CellsFill', WHERE WHAT IT READS IS OF BULK AT MOST 1048576: true; the input reads as it did. -/
def cellsFillUptoRow : OpenClaim := { program := "ytilmgjbnpcbnfaa", sum := "f1bd2ab91b2bc73703a79549a63a8dec5a1054e76b151ddb5082527e609ce113", func := "coachyard/coachyardlaw03.CellsFill", spec := "cellsFill", unfollowed := true, recurses := true, apart := false, narrowed := true }
def CellsFillUptoSaid : Prop := cellsFillUptoRow.holds Try.pinned (OpenSpec.upto cellsFillSpec)

/-- 'coachyardlaw03.CellsNil', WHERE WHAT IT READS IS OF BULK AT MOST 1048576: true; the input reads as it did. -/
def cellsNilUptoRow : OpenClaim := { program := "ytilmgjbnpcbnfaa", sum := "f1bd2ab91b2bc73703a79549a63a8dec5a1054e76b151ddb5082527e609ce113", func := "coachyard/coachyardlaw03.CellsNil", spec := "cellsNil", unfollowed := true, recurses := true, apart := false, narrowed := true }
def CellsNilUptoSaid : Prop := cellsNilUptoRow.holds Try.pinned (OpenSpec.upto cellsNilSpec)

/-- 'coachyardlaw12.PlanZero', WHERE WHAT IT READS IS OF BULK AT MOST 1048576: true; the input reads as it did. -/
def planZeroUptoRow : OpenClaim := { program := "ytilmgjbnpcbnfaa", sum := "f1bd2ab91b2bc73703a79549a63a8dec5a1054e76b151ddb5082527e609ce113", func := "coachyard/coachyardlaw12.PlanZero", spec := "planZero", unfollowed := true, recurses := true, apart := false, narrowed := true }
def PlanZeroUptoSaid : Prop := planZeroUptoRow.holds Try.pinned (OpenSpec.upto planZeroSpec)

/-- 'coachyardlaw12.PlanInits', WHERE WHAT IT READS IS OF BULK AT MOST 1048576: true; the input reads as it did. -/
def planInitsUptoRow : OpenClaim := { program := "ytilmgjbnpcbnfaa", sum := "f1bd2ab91b2bc73703a79549a63a8dec5a1054e76b151ddb5082527e609ce113", func := "coachyard/coachyardlaw12.PlanInits", spec := "planInits", unfollowed := true, recurses := true, apart := false, narrowed := true }
def PlanInitsUptoSaid : Prop := planInitsUptoRow.holds Try.pinned (OpenSpec.upto planInitsSpec)

/-- 'coachyardlaw06.ArenaAlone', WHERE WHAT IT READS IS OF BULK AT MOST 1048576: true; the input reads as it did. -/
def arenaAloneUptoRow : OpenClaim := { program := "ytilmgjbnpcbnfaa", sum := "f1bd2ab91b2bc73703a79549a63a8dec5a1054e76b151ddb5082527e609ce113", func := "coachyard/coachyardlaw06.ArenaAlone", spec := "arenaAlone", unfollowed := true, recurses := true, apart := false, narrowed := true }
def ArenaAloneUptoSaid : Prop := arenaAloneUptoRow.holds Try.pinned (OpenSpec.upto arenaAloneSpec)

/-- 'coachyardlaw06.ArenaInits', WHERE WHAT IT READS IS OF BULK AT MOST 1048576: true; the input reads as it did. -/
def arenaInitsUptoRow : OpenClaim := { program := "ytilmgjbnpcbnfaa", sum := "f1bd2ab91b2bc73703a79549a63a8dec5a1054e76b151ddb5082527e609ce113", func := "coachyard/coachyardlaw06.ArenaInits", spec := "arenaInits", unfollowed := true, recurses := true, apart := false, narrowed := true }
def ArenaInitsUptoSaid : Prop := arenaInitsUptoRow.holds Try.pinned (OpenSpec.upto arenaInitsSpec)

/-- 'coachyardlaw32.LanePlays', WHERE WHAT IT READS IS OF BULK AT MOST 1048576: true; the input reads as it did. -/
def lanePlaysUptoRow : OpenClaim := { program := "ytilmgjbnpcbnfaa", sum := "f1bd2ab91b2bc73703a79549a63a8dec5a1054e76b151ddb5082527e609ce113", func := "coachyard/coachyardlaw32.LanePlays", spec := "lanePlays", unfollowed := true, recurses := true, apart := false, narrowed := true }
def LanePlaysUptoSaid : Prop := lanePlaysUptoRow.holds Try.pinned (OpenSpec.upto lanePlaysSpec)

/-- 'coachyardlaw32.LaneAlone', WHERE WHAT IT READS IS OF BULK AT MOST 1048576: true; the input reads as it did. -/
def laneAloneUptoRow : OpenClaim := { program := "ytilmgjbnpcbnfaa", sum := "f1bd2ab91b2bc73703a79549a63a8dec5a1054e76b151ddb5082527e609ce113", func := "coachyard/coachyardlaw32.LaneAlone", spec := "laneAlone", unfollowed := true, recurses := true, apart := false, narrowed := true }
def LaneAloneUptoSaid : Prop := laneAloneUptoRow.holds Try.pinned (OpenSpec.upto laneAloneSpec)

/-- 'coachyardlaw06.ArenaOnce', WHERE WHAT IT READS IS OF BULK AT MOST 1048576: true; the input reads as it did. -/
def arenaOnceUptoRow : OpenClaim := { program := "ytilmgjbnpcbnfaa", sum := "f1bd2ab91b2bc73703a79549a63a8dec5a1054e76b151ddb5082527e609ce113", func := "coachyard/coachyardlaw06.ArenaOnce", spec := "arenaOnce", unfollowed := true, recurses := true, apart := false, narrowed := true }
def ArenaOnceUptoSaid : Prop := arenaOnceUptoRow.holds Try.pinned (OpenSpec.upto arenaOnceSpec)

/-- 'coachyardlaw32.LaneAll', WHERE WHAT IT READS IS OF BULK AT MOST 1048576: true; the input reads as it did. -/
def laneAllUptoRow : OpenClaim := { program := "ytilmgjbnpcbnfaa", sum := "f1bd2ab91b2bc73703a79549a63a8dec5a1054e76b151ddb5082527e609ce113", func := "coachyard/coachyardlaw32.LaneAll", spec := "laneAll", unfollowed := true, recurses := true, apart := false, narrowed := true }
def LaneAllUptoSaid : Prop := laneAllUptoRow.holds Try.pinned (OpenSpec.upto laneAllSpec)

/-- 'coachyardlaw32.LaneSteps', WHERE WHAT IT READS IS OF BULK AT MOST 1048576: true; the input reads as it did. -/
def laneStepsUptoRow : OpenClaim := { program := "ytilmgjbnpcbnfaa", sum := "f1bd2ab91b2bc73703a79549a63a8dec5a1054e76b151ddb5082527e609ce113", func := "coachyard/coachyardlaw32.LaneSteps", spec := "laneSteps", unfollowed := true, recurses := true, apart := false, narrowed := true }
def LaneStepsUptoSaid : Prop := laneStepsUptoRow.holds Try.pinned (OpenSpec.upto laneStepsSpec)

/-- 'coachyardlaw06.ArenaSteps', WHERE WHAT IT READS IS OF BULK AT MOST 1048576: true; the input reads as it did. -/
def arenaStepsUptoRow : OpenClaim := { program := "ytilmgjbnpcbnfaa", sum := "f1bd2ab91b2bc73703a79549a63a8dec5a1054e76b151ddb5082527e609ce113", func := "coachyard/coachyardlaw06.ArenaSteps", spec := "arenaSteps", unfollowed := true, recurses := true, apart := false, narrowed := true }
def ArenaStepsUptoSaid : Prop := arenaStepsUptoRow.holds Try.pinned (OpenSpec.upto arenaStepsSpec)

/-- 'coachyardlaw07.DequeSteps', WHERE WHAT IT READS IS OF BULK AT MOST 1048576: true; the input reads as it did. -/
def dequeStepsUptoRow : OpenClaim := { program := "ytilmgjbnpcbnfaa", sum := "f1bd2ab91b2bc73703a79549a63a8dec5a1054e76b151ddb5082527e609ce113", func := "coachyard/coachyardlaw07.DequeSteps", spec := "dequeSteps", unfollowed := true, recurses := true, apart := false, narrowed := true }
def DequeStepsUptoSaid : Prop := dequeStepsUptoRow.holds Try.pinned (OpenSpec.upto dequeStepsSpec)

/-- 'coachyardlaw07.DequeSteals', WHERE WHAT IT READS IS OF BULK AT MOST 1048576: true; the input reads as it did. -/
def dequeStealsUptoRow : OpenClaim := { program := "ytilmgjbnpcbnfaa", sum := "f1bd2ab91b2bc73703a79549a63a8dec5a1054e76b151ddb5082527e609ce113", func := "coachyard/coachyardlaw07.DequeSteals", spec := "dequeSteals", unfollowed := true, recurses := true, apart := false, narrowed := true }
def DequeStealsUptoSaid : Prop := dequeStealsUptoRow.holds Try.pinned (OpenSpec.upto dequeStealsSpec)

/-- 'coachyardlaw07.DequeAll', WHERE WHAT IT READS IS OF BULK AT MOST 1048576: true; the input reads as it did. -/
def dequeAllUptoRow : OpenClaim := { program := "ytilmgjbnpcbnfaa", sum := "f1bd2ab91b2bc73703a79549a63a8dec5a1054e76b151ddb5082527e609ce113", func := "coachyard/coachyardlaw07.DequeAll", spec := "dequeAll", unfollowed := true, recurses := true, apart := false, narrowed := true }
def DequeAllUptoSaid : Prop := dequeAllUptoRow.holds Try.pinned (OpenSpec.upto dequeAllSpec)

/-- 'coachyardlaw07.DequePlays', WHERE WHAT IT READS IS OF BULK AT MOST 1048576: true; the input reads as it did. -/
def dequePlaysUptoRow : OpenClaim := { program := "ytilmgjbnpcbnfaa", sum := "f1bd2ab91b2bc73703a79549a63a8dec5a1054e76b151ddb5082527e609ce113", func := "coachyard/coachyardlaw07.DequePlays", spec := "dequePlays", unfollowed := true, recurses := true, apart := false, narrowed := true }
def DequePlaysUptoSaid : Prop := dequePlaysUptoRow.holds Try.pinned (OpenSpec.upto dequePlaysSpec)

/-- 'coachyardlaw07.DequeAlone', WHERE WHAT IT READS IS OF BULK AT MOST 1048576: true; the input reads as it did. -/
def dequeAloneUptoRow : OpenClaim := { program := "ytilmgjbnpcbnfaa", sum := "f1bd2ab91b2bc73703a79549a63a8dec5a1054e76b151ddb5082527e609ce113", func := "coachyard/coachyardlaw07.DequeAlone", spec := "dequeAlone", unfollowed := true, recurses := true, apart := false, narrowed := true }
def DequeAloneUptoSaid : Prop := dequeAloneUptoRow.holds Try.pinned (OpenSpec.upto dequeAloneSpec)

/-- 'coachyardlaw08.RingAll', WHERE WHAT IT READS IS OF BULK AT MOST 1048576: true; the input reads as it did. -/
def ringAllUptoRow : OpenClaim := { program := "ytilmgjbnpcbnfaa", sum := "f1bd2ab91b2bc73703a79549a63a8dec5a1054e76b151ddb5082527e609ce113", func := "coachyard/coachyardlaw08.RingAll", spec := "ringAll", unfollowed := true, recurses := true, apart := false, narrowed := true }
def RingAllUptoSaid : Prop := ringAllUptoRow.holds Try.pinned (OpenSpec.upto ringAllSpec)

/-- 'coachyardlaw08.RingPlays', WHERE WHAT IT READS IS OF BULK AT MOST 1048576: true; the input reads as it did. -/
def ringPlaysUptoRow : OpenClaim := { program := "ytilmgjbnpcbnfaa", sum := "f1bd2ab91b2bc73703a79549a63a8dec5a1054e76b151ddb5082527e609ce113", func := "coachyard/coachyardlaw08.RingPlays", spec := "ringPlays", unfollowed := true, recurses := true, apart := false, narrowed := true }
def RingPlaysUptoSaid : Prop := ringPlaysUptoRow.holds Try.pinned (OpenSpec.upto ringPlaysSpec)

/-- 'coachyardlaw08.RingAlone', WHERE WHAT IT READS IS OF BULK AT MOST 1048576: true; the input reads as it did. -/
def ringAloneUptoRow : OpenClaim := { program := "ytilmgjbnpcbnfaa", sum := "f1bd2ab91b2bc73703a79549a63a8dec5a1054e76b151ddb5082527e609ce113", func := "coachyard/coachyardlaw08.RingAlone", spec := "ringAlone", unfollowed := true, recurses := true, apart := false, narrowed := true }
def RingAloneUptoSaid : Prop := ringAloneUptoRow.holds Try.pinned (OpenSpec.upto ringAloneSpec)

/-- 'coachyardlaw09.QueueOrder', WHERE WHAT IT READS IS OF BULK AT MOST 1048576: true; the input reads as it did. -/
def queueOrderUptoRow : OpenClaim := { program := "ytilmgjbnpcbnfaa", sum := "f1bd2ab91b2bc73703a79549a63a8dec5a1054e76b151ddb5082527e609ce113", func := "coachyard/coachyardlaw09.QueueOrder", spec := "queueOrder", unfollowed := true, recurses := true, apart := false, narrowed := true }
def QueueOrderUptoSaid : Prop := queueOrderUptoRow.holds Try.pinned (OpenSpec.upto queueOrderSpec)

/-- 'coachyardlaw09.QueueInits', WHERE WHAT IT READS IS OF BULK AT MOST 1048576: true; the input reads as it did. -/
def queueInitsUptoRow : OpenClaim := { program := "ytilmgjbnpcbnfaa", sum := "f1bd2ab91b2bc73703a79549a63a8dec5a1054e76b151ddb5082527e609ce113", func := "coachyard/coachyardlaw09.QueueInits", spec := "queueInits", unfollowed := true, recurses := true, apart := false, narrowed := true }
def QueueInitsUptoSaid : Prop := queueInitsUptoRow.holds Try.pinned (OpenSpec.upto queueInitsSpec)

/-- 'coachyardlaw09.QueueAll', WHERE WHAT IT READS IS OF BULK AT MOST 1048576: true; the input reads as it did. -/
def queueAllUptoRow : OpenClaim := { program := "ytilmgjbnpcbnfaa", sum := "f1bd2ab91b2bc73703a79549a63a8dec5a1054e76b151ddb5082527e609ce113", func := "coachyard/coachyardlaw09.QueueAll", spec := "queueAll", unfollowed := true, recurses := true, apart := false, narrowed := true }
def QueueAllUptoSaid : Prop := queueAllUptoRow.holds Try.pinned (OpenSpec.upto queueAllSpec)

/-- 'coachyardlaw09.QueuePlays', WHERE WHAT IT READS IS OF BULK AT MOST 1048576: true; the input reads as it did. -/
def queuePlaysUptoRow : OpenClaim := { program := "ytilmgjbnpcbnfaa", sum := "f1bd2ab91b2bc73703a79549a63a8dec5a1054e76b151ddb5082527e609ce113", func := "coachyard/coachyardlaw09.QueuePlays", spec := "queuePlays", unfollowed := true, recurses := true, apart := false, narrowed := true }
def QueuePlaysUptoSaid : Prop := queuePlaysUptoRow.holds Try.pinned (OpenSpec.upto queuePlaysSpec)

/-- 'coachyardlaw09.QueueAlone', WHERE WHAT IT READS IS OF BULK AT MOST 1048576: true; the input reads as it did. -/
def queueAloneUptoRow : OpenClaim := { program := "ytilmgjbnpcbnfaa", sum := "f1bd2ab91b2bc73703a79549a63a8dec5a1054e76b151ddb5082527e609ce113", func := "coachyard/coachyardlaw09.QueueAlone", spec := "queueAlone", unfollowed := true, recurses := true, apart := false, narrowed := true }
def QueueAloneUptoSaid : Prop := queueAloneUptoRow.holds Try.pinned (OpenSpec.upto queueAloneSpec)

end Rows
end Go.Proofs.Ytilmgjbnpcbnfaa
