/-
  No cell of these rows narrows 'for every input' (looked for: loops, veiled, ifaces, maps, wideKeys, modest, calm, conditions, laid).
  DERIVED. THE GIVEN ROWS OF THIS SEAT. 12 by the template 'for every input the law returns true; each argument reads behind the call as it read before'; 0 by the template 'total and deterministic' (their statements: YtoogepoalbhlhaaTotals.lean).
  GIVEN WITH THE SEED: the statements are not yours to turn. If you find one false, say at which input.
  Laid BY PROGRAM, IN A SANDBOX (cutbox-rows.mjs): the forced cells as the released guide's own fill.sh prints them over the translation d4b805076270c434… (all of the seat's roots in one cut). By AI agents, Wed Nov 11 2026. No macro, syntax, notation, axiom, sorry.
-/
import Derived.Test.YtoogepoalbhlhaaChecked
import GoSem.Claim
import GoSem.ClaimJoined
import GoSem.ClaimMapViews
import Derived.JoinedTies
import Derived.KernelRfl
namespace Go.Proofs.Ytoogepoalbhlhaa
/- THE CELL 'sum', in the pinned program and in every row, IS THE sha256 OF THE DUMP (.gsa) THAT YtoogepoalbhlhaaProg.lean LOADS. Nothing in Lean hashes anything: it is a label: what it is worth is what the hold of that sum in a sandbox is worth. -/
noncomputable def Try.pinned : Pinned := { name := "ytoogepoalbhlhaa", sum := "d4b805076270c4349a1a84db88c731ea0a45976b6c7b82d9e32bcfc8d8362f52", checked := Try.checked }
namespace Rows
def none {H : Type} : Left H := { results := [], args := [] }

/-- 'coachyardlaw12.PlanParts': WHATEVER THE INPUT: true; the input reads as it did. -/
def planPartsSpec : ChangeSpec := { name := "planParts", fn := fun _ => fun
  | [d1, d2] => { results := [.lit (.bool true)], args := [d1, d2] }
  | _ => none }
def planPartsRow : OpenClaim := { program := "ytoogepoalbhlhaa", sum := "d4b805076270c4349a1a84db88c731ea0a45976b6c7b82d9e32bcfc8d8362f52", func := "coachyard/coachyardlaw12.PlanParts", spec := "planParts", apart := false }
def PlanPartsSaid : Prop := planPartsRow.holds Try.pinned (OpenSpec.ofChange planPartsSpec)

/-- ITS FALSE NEIGHBOUR: 'it returns false'. Refute it at one input. -/
def planPartsWrong : ChangeSpec := { name := "planParts", fn := fun _ => fun
  | [d1, d2] => { results := [.lit (.bool false)], args := [d1, d2] }
  | _ => none }
def PlanPartsWrongFalsely : Prop := planPartsRow.holds Try.pinned (OpenSpec.ofChange planPartsWrong)

/-- 'coachyardlaw03.CellsPlay': WHATEVER THE INPUT: true; the input reads as it did. -/
def cellsPlaySpec : ChangeSpec := { name := "cellsPlay", fn := fun _ => fun
  | [d1, d2] => { results := [.lit (.bool true)], args := [d1, d2] }
  | _ => none }
def cellsPlayRow : OpenClaim := { program := "ytoogepoalbhlhaa", sum := "d4b805076270c4349a1a84db88c731ea0a45976b6c7b82d9e32bcfc8d8362f52", func := "coachyard/coachyardlaw03.CellsPlay", spec := "cellsPlay", unfollowed := true, recurses := true, apart := false }
def CellsPlaySaid : Prop := cellsPlayRow.holds Try.pinned (OpenSpec.ofChange cellsPlaySpec)

/-- ITS FALSE NEIGHBOUR: 'it returns false'. Refute it at one input. -/
def cellsPlayWrong : ChangeSpec := { name := "cellsPlay", fn := fun _ => fun
  | [d1, d2] => { results := [.lit (.bool false)], args := [d1, d2] }
  | _ => none }
def CellsPlayWrongFalsely : Prop := cellsPlayRow.holds Try.pinned (OpenSpec.ofChange cellsPlayWrong)

/-- 'coachyardlaw03.CellsApart': WHATEVER THE INPUT: true; the input reads as it did. -/
def cellsApartSpec : ChangeSpec := { name := "cellsApart", fn := fun _ => fun
  | [d1, d2, d3] => { results := [.lit (.bool true)], args := [d1, d2, d3] }
  | _ => none }
def cellsApartRow : OpenClaim := { program := "ytoogepoalbhlhaa", sum := "d4b805076270c4349a1a84db88c731ea0a45976b6c7b82d9e32bcfc8d8362f52", func := "coachyard/coachyardlaw03.CellsApart", spec := "cellsApart", unfollowed := true, recurses := true, apart := false }
def CellsApartSaid : Prop := cellsApartRow.holds Try.pinned (OpenSpec.ofChange cellsApartSpec)

/-- ITS FALSE NEIGHBOUR: 'it returns false'. Refute it at one input. -/
def cellsApartWrong : ChangeSpec := { name := "cellsApart", fn := fun _ => fun
  | [d1, d2, d3] => { results := [.lit (.bool false)], args := [d1, d2, d3] }
  | _ => none }
def CellsApartWrongFalsely : Prop := cellsApartRow.holds Try.pinned (OpenSpec.ofChange cellsApartWrong)

/-- 'coachyardlaw03.CellsFill': WHATEVER THE INPUT: true; the input reads as it did. -/
def cellsFillSpec : ChangeSpec := { name := "cellsFill", fn := fun _ => fun
  | [d1, d2, d3] => { results := [.lit (.bool true)], args := [d1, d2, d3] }
  | _ => none }
def cellsFillRow : OpenClaim := { program := "ytoogepoalbhlhaa", sum := "d4b805076270c4349a1a84db88c731ea0a45976b6c7b82d9e32bcfc8d8362f52", func := "coachyard/coachyardlaw03.CellsFill", spec := "cellsFill", unfollowed := true, recurses := true, apart := false }
def CellsFillSaid : Prop := cellsFillRow.holds Try.pinned (OpenSpec.ofChange cellsFillSpec)

/-- ITS FALSE NEIGHBOUR: 'it returns false'. Refute it at one input. -/
def cellsFillWrong : ChangeSpec := { name := "cellsFill", fn := fun _ => fun
  | [d1, d2, d3] => { results := [.lit (.bool false)], args := [d1, d2, d3] }
  | _ => none }
def CellsFillWrongFalsely : Prop := cellsFillRow.holds Try.pinned (OpenSpec.ofChange cellsFillWrong)

/-- 'coachyardlaw12.PlanInits': WHATEVER THE INPUT: true; the input reads as it did. -/
def planInitsSpec : ChangeSpec := { name := "planInits", fn := fun _ => fun
  | [d] => { results := [.lit (.bool true)], args := [d] }
  | _ => none }
def planInitsRow : OpenClaim := { program := "ytoogepoalbhlhaa", sum := "d4b805076270c4349a1a84db88c731ea0a45976b6c7b82d9e32bcfc8d8362f52", func := "coachyard/coachyardlaw12.PlanInits", spec := "planInits", unfollowed := true, recurses := true, apart := false }
def PlanInitsSaid : Prop := planInitsRow.holds Try.pinned (OpenSpec.ofChange planInitsSpec)

/-- ITS FALSE NEIGHBOUR: 'it returns false'. Refute it at one input. -/
def planInitsWrong : ChangeSpec := { name := "planInits", fn := fun _ => fun
  | [d] => { results := [.lit (.bool false)], args := [d] }
  | _ => none }
def PlanInitsWrongFalsely : Prop := planInitsRow.holds Try.pinned (OpenSpec.ofChange planInitsWrong)

/-- 'coachyardlaw06.ArenaAlone': WHATEVER THE INPUT: true; the input reads as it did. -/
def arenaAloneSpec : ChangeSpec := { name := "arenaAlone", fn := fun _ => fun
  | [d1, d2] => { results := [.lit (.bool true)], args := [d1, d2] }
  | _ => none }
def arenaAloneRow : OpenClaim := { program := "ytoogepoalbhlhaa", sum := "d4b805076270c4349a1a84db88c731ea0a45976b6c7b82d9e32bcfc8d8362f52", func := "coachyard/coachyardlaw06.ArenaAlone", spec := "arenaAlone", unfollowed := true, recurses := true, apart := false }
def ArenaAloneSaid : Prop := arenaAloneRow.holds Try.pinned (OpenSpec.ofChange arenaAloneSpec)

/-- ITS FALSE NEIGHBOUR: 'it returns false'. Refute it at one input. -/
def arenaAloneWrong : ChangeSpec := { name := "arenaAlone", fn := fun _ => fun
  | [d1, d2] => { results := [.lit (.bool false)], args := [d1, d2] }
  | _ => none }
def ArenaAloneWrongFalsely : Prop := arenaAloneRow.holds Try.pinned (OpenSpec.ofChange arenaAloneWrong)

/-- 'coachyardlaw06.ArenaInits': WHATEVER THE INPUT: true; the input reads as it did. -/
def arenaInitsSpec : ChangeSpec := { name := "arenaInits", fn := fun _ => fun
  | [d1, d2, d3, d4] => { results := [.lit (.bool true)], args := [d1, d2, d3, d4] }
  | _ => none }
def arenaInitsRow : OpenClaim := { program := "ytoogepoalbhlhaa", sum := "d4b805076270c4349a1a84db88c731ea0a45976b6c7b82d9e32bcfc8d8362f52", func := "coachyard/coachyardlaw06.ArenaInits", spec := "arenaInits", unfollowed := true, recurses := true, apart := false }
def ArenaInitsSaid : Prop := arenaInitsRow.holds Try.pinned (OpenSpec.ofChange arenaInitsSpec)

/-- ITS FALSE NEIGHBOUR: 'it returns false'. Refute it at one input. -/
def arenaInitsWrong : ChangeSpec := { name := "arenaInits", fn := fun _ => fun
  | [d1, d2, d3, d4] => { results := [.lit (.bool false)], args := [d1, d2, d3, d4] }
  | _ => none }
def ArenaInitsWrongFalsely : Prop := arenaInitsRow.holds Try.pinned (OpenSpec.ofChange arenaInitsWrong)

/-- 'coachyardlaw06.ArenaOnce': WHATEVER THE INPUT: true; the input reads as it did. -/
def arenaOnceSpec : ChangeSpec := { name := "arenaOnce", fn := fun _ => fun
  | [d1, d2, d3] => { results := [.lit (.bool true)], args := [d1, d2, d3] }
  | _ => none }
def arenaOnceRow : OpenClaim := { program := "ytoogepoalbhlhaa", sum := "d4b805076270c4349a1a84db88c731ea0a45976b6c7b82d9e32bcfc8d8362f52", func := "coachyard/coachyardlaw06.ArenaOnce", spec := "arenaOnce", unfollowed := true, recurses := true, apart := false }
def ArenaOnceSaid : Prop := arenaOnceRow.holds Try.pinned (OpenSpec.ofChange arenaOnceSpec)

/-- ITS FALSE NEIGHBOUR: 'it returns false'. Refute it at one input. -/
def arenaOnceWrong : ChangeSpec := { name := "arenaOnce", fn := fun _ => fun
  | [d1, d2, d3] => { results := [.lit (.bool false)], args := [d1, d2, d3] }
  | _ => none }
def ArenaOnceWrongFalsely : Prop := arenaOnceRow.holds Try.pinned (OpenSpec.ofChange arenaOnceWrong)

/-- 'coachyardlaw06.ArenaSteps': WHATEVER THE INPUT: true; the input reads as it did. -/
def arenaStepsSpec : ChangeSpec := { name := "arenaSteps", fn := fun _ => fun
  | [d1, d2, d3] => { results := [.lit (.bool true)], args := [d1, d2, d3] }
  | _ => none }
def arenaStepsRow : OpenClaim := { program := "ytoogepoalbhlhaa", sum := "d4b805076270c4349a1a84db88c731ea0a45976b6c7b82d9e32bcfc8d8362f52", func := "coachyard/coachyardlaw06.ArenaSteps", spec := "arenaSteps", unfollowed := true, recurses := true, apart := false }
def ArenaStepsSaid : Prop := arenaStepsRow.holds Try.pinned (OpenSpec.ofChange arenaStepsSpec)

/-- ITS FALSE NEIGHBOUR: 'it returns false'. Refute it at one input. -/
def arenaStepsWrong : ChangeSpec := { name := "arenaSteps", fn := fun _ => fun
  | [d1, d2, d3] => { results := [.lit (.bool false)], args := [d1, d2, d3] }
  | _ => none }
def ArenaStepsWrongFalsely : Prop := arenaStepsRow.holds Try.pinned (OpenSpec.ofChange arenaStepsWrong)

/-- 'coachyardlaw32.LanePlays': WHATEVER THE INPUT: true; the input reads as it did. -/
def lanePlaysSpec : ChangeSpec := { name := "lanePlays", fn := fun _ => fun
  | [d1, d2, d3, d4] => { results := [.lit (.bool true)], args := [d1, d2, d3, d4] }
  | _ => none }
def lanePlaysRow : OpenClaim := { program := "ytoogepoalbhlhaa", sum := "d4b805076270c4349a1a84db88c731ea0a45976b6c7b82d9e32bcfc8d8362f52", func := "coachyard/coachyardlaw32.LanePlays", spec := "lanePlays", unfollowed := true, recurses := true, apart := false }
def LanePlaysSaid : Prop := lanePlaysRow.holds Try.pinned (OpenSpec.ofChange lanePlaysSpec)

/-- ITS FALSE NEIGHBOUR: 'it returns false'. Refute it at one input. -/
def lanePlaysWrong : ChangeSpec := { name := "lanePlays", fn := fun _ => fun
  | [d1, d2, d3, d4] => { results := [.lit (.bool false)], args := [d1, d2, d3, d4] }
  | _ => none }
def LanePlaysWrongFalsely : Prop := lanePlaysRow.holds Try.pinned (OpenSpec.ofChange lanePlaysWrong)

/-- 'coachyardlaw32.LaneAlone': WHATEVER THE INPUT: true; the input reads as it did. -/
def laneAloneSpec : ChangeSpec := { name := "laneAlone", fn := fun _ => fun
  | [d1, d2, d3] => { results := [.lit (.bool true)], args := [d1, d2, d3] }
  | _ => none }
def laneAloneRow : OpenClaim := { program := "ytoogepoalbhlhaa", sum := "d4b805076270c4349a1a84db88c731ea0a45976b6c7b82d9e32bcfc8d8362f52", func := "coachyard/coachyardlaw32.LaneAlone", spec := "laneAlone", unfollowed := true, recurses := true, apart := false }
def LaneAloneSaid : Prop := laneAloneRow.holds Try.pinned (OpenSpec.ofChange laneAloneSpec)

/-- ITS FALSE NEIGHBOUR: 'it returns false'. Refute it at one input. -/
def laneAloneWrong : ChangeSpec := { name := "laneAlone", fn := fun _ => fun
  | [d1, d2, d3] => { results := [.lit (.bool false)], args := [d1, d2, d3] }
  | _ => none }
def LaneAloneWrongFalsely : Prop := laneAloneRow.holds Try.pinned (OpenSpec.ofChange laneAloneWrong)

/-- 'coachyardlaw32.LaneAll': WHATEVER THE INPUT: true; the input reads as it did. -/
def laneAllSpec : ChangeSpec := { name := "laneAll", fn := fun _ => fun
  | [d1, d2, d3] => { results := [.lit (.bool true)], args := [d1, d2, d3] }
  | _ => none }
def laneAllRow : OpenClaim := { program := "ytoogepoalbhlhaa", sum := "d4b805076270c4349a1a84db88c731ea0a45976b6c7b82d9e32bcfc8d8362f52", func := "coachyard/coachyardlaw32.LaneAll", spec := "laneAll", unfollowed := true, recurses := true, apart := false }
def LaneAllSaid : Prop := laneAllRow.holds Try.pinned (OpenSpec.ofChange laneAllSpec)

/-- ITS FALSE NEIGHBOUR: 'it returns false'. Refute it at one input. -/
def laneAllWrong : ChangeSpec := { name := "laneAll", fn := fun _ => fun
  | [d1, d2, d3] => { results := [.lit (.bool false)], args := [d1, d2, d3] }
  | _ => none }
def LaneAllWrongFalsely : Prop := laneAllRow.holds Try.pinned (OpenSpec.ofChange laneAllWrong)

/- THE SECOND FORM. 'bulk': how many values and letters a reading holds, each counted each time it is reached (what is shared counts as often as it is met; a slice's spare places count too). A statement '..UptoSaid' is the law's where the arguments, and the package variables that the reading takes, are together of bulk at most 1048576: NARROWER than '..Said'. Prove '..Said' where nothing that the law and all that it calls make is longer than what came in: it says more and counts as full. Else prove '..UptoSaid'. A law counts once. -/
mutual
def uptoBulk {H : Type} : DataW H → Nat
  | .lit (.string bytes) => bytes.length + 1
  | .lit _ => 1
  | .nil => 1
  | .ptr d => uptoBulk d + 1
  | .slice elems spare => uptoBulkAll elems + uptoBulkAll spare + 1
  | .agg parts => uptoBulkAll parts + 1
  | .iface _ d => uptoBulk d + 1
  | .map entries => uptoBulkEntries entries + 1
  | .held _ => 1
def uptoBulkAll {H : Type} : List (DataW H) → Nat
  | [] => 0
  | d :: r => uptoBulk d + uptoBulkAll r
def uptoBulkEntries {H : Type} : List (Lit × DataW H) → Nat
  | [] => 0
  | x :: r => uptoBulkEntry x + uptoBulkEntries r
def uptoBulkEntry {H : Type} : Lit × DataW H → Nat
  | (.string bytes, d) => bytes.length + uptoBulk d + 1
  | (_, d) => uptoBulk d + 1
 end
def uptoSmall : (H : Type) → List (DataW H) → Bool := fun _ ds => decide (uptoBulkAll ds ≤ 1048576)
def OpenSpec.upto (s : _root_.Go.ChangeSpec) : _root_.Go.OpenSpec := { _root_.Go.OpenSpec.ofChange s with cond := some uptoSmall }

/-- 'coachyardlaw12.PlanParts', WHERE WHAT IT READS IS OF BULK AT MOST 1048576: true; the input reads as it did. -/
def planPartsUptoRow : OpenClaim := { program := "ytoogepoalbhlhaa", sum := "d4b805076270c4349a1a84db88c731ea0a45976b6c7b82d9e32bcfc8d8362f52", func := "coachyard/coachyardlaw12.PlanParts", spec := "planParts", apart := false, narrowed := true }
def PlanPartsUptoSaid : Prop := planPartsUptoRow.holds Try.pinned (OpenSpec.upto planPartsSpec)

/-- 'coachyardlaw03.CellsPlay', WHERE WHAT IT READS IS OF BULK AT MOST 1048576: true; the input reads as it did. -/
def cellsPlayUptoRow : OpenClaim := { program := "ytoogepoalbhlhaa", sum := "d4b805076270c4349a1a84db88c731ea0a45976b6c7b82d9e32bcfc8d8362f52", func := "coachyard/coachyardlaw03.CellsPlay", spec := "cellsPlay", unfollowed := true, recurses := true, apart := false, narrowed := true }
def CellsPlayUptoSaid : Prop := cellsPlayUptoRow.holds Try.pinned (OpenSpec.upto cellsPlaySpec)

/-- 'coachyardlaw03.CellsApart', WHERE WHAT IT READS IS OF BULK AT MOST 1048576: true; the input reads as it did. -/
def cellsApartUptoRow : OpenClaim := { program := "ytoogepoalbhlhaa", sum := "d4b805076270c4349a1a84db88c731ea0a45976b6c7b82d9e32bcfc8d8362f52", func := "coachyard/coachyardlaw03.CellsApart", spec := "cellsApart", unfollowed := true, recurses := true, apart := false, narrowed := true }
def CellsApartUptoSaid : Prop := cellsApartUptoRow.holds Try.pinned (OpenSpec.upto cellsApartSpec)

/-- 'coachyardlaw03.CellsFill', WHERE WHAT IT READS IS OF BULK AT MOST 1048576: true; the input reads as it did. -/
def cellsFillUptoRow : OpenClaim := { program := "ytoogepoalbhlhaa", sum := "d4b805076270c4349a1a84db88c731ea0a45976b6c7b82d9e32bcfc8d8362f52", func := "coachyard/coachyardlaw03.CellsFill", spec := "cellsFill", unfollowed := true, recurses := true, apart := false, narrowed := true }
def CellsFillUptoSaid : Prop := cellsFillUptoRow.holds Try.pinned (OpenSpec.upto cellsFillSpec)

/-- 'coachyardlaw12.PlanInits', WHERE WHAT IT READS IS OF BULK AT MOST 1048576: true; the input reads as it did. -/
def planInitsUptoRow : OpenClaim := { program := "ytoogepoalbhlhaa", sum := "d4b805076270c4349a1a84db88c731ea0a45976b6c7b82d9e32bcfc8d8362f52", func := "coachyard/coachyardlaw12.PlanInits", spec := "planInits", unfollowed := true, recurses := true, apart := false, narrowed := true }
def PlanInitsUptoSaid : Prop := planInitsUptoRow.holds Try.pinned (OpenSpec.upto planInitsSpec)

/-- 'coachyardlaw06.ArenaAlone', WHERE WHAT IT READS IS OF BULK AT MOST 1048576: true; the input reads as it did. -/
def arenaAloneUptoRow : OpenClaim := { program := "ytoogepoalbhlhaa", sum := "d4b805076270c4349a1a84db88c731ea0a45976b6c7b82d9e32bcfc8d8362f52", func := "coachyard/coachyardlaw06.ArenaAlone", spec := "arenaAlone", unfollowed := true, recurses := true, apart := false, narrowed := true }
def ArenaAloneUptoSaid : Prop := arenaAloneUptoRow.holds Try.pinned (OpenSpec.upto arenaAloneSpec)

/-- 'coachyardlaw06.ArenaInits', WHERE WHAT IT READS IS OF BULK AT MOST 1048576: true; the input reads as it did. -/
def arenaInitsUptoRow : OpenClaim := { program := "ytoogepoalbhlhaa", sum := "d4b805076270c4349a1a84db88c731ea0a45976b6c7b82d9e32bcfc8d8362f52", func := "coachyard/coachyardlaw06.ArenaInits", spec := "arenaInits", unfollowed := true, recurses := true, apart := false, narrowed := true }
def ArenaInitsUptoSaid : Prop := arenaInitsUptoRow.holds Try.pinned (OpenSpec.upto arenaInitsSpec)

/-- 'coachyardlaw06.ArenaOnce', WHERE WHAT IT READS IS OF BULK AT MOST 1048576: true; the input reads as it did. -/
def arenaOnceUptoRow : OpenClaim := { program := "ytoogepoalbhlhaa", sum := "d4b805076270c4349a1a84db88c731ea0a45976b6c7b82d9e32bcfc8d8362f52", func := "coachyard/coachyardlaw06.ArenaOnce", spec := "arenaOnce", unfollowed := true, recurses := true, apart := false, narrowed := true }
def ArenaOnceUptoSaid : Prop := arenaOnceUptoRow.holds Try.pinned (OpenSpec.upto arenaOnceSpec)

/-- 'coachyardlaw06.ArenaSteps', WHERE WHAT IT READS IS OF BULK AT MOST 1048576: true; the input reads as it did. -/
def arenaStepsUptoRow : OpenClaim := { program := "ytoogepoalbhlhaa", sum := "d4b805076270c4349a1a84db88c731ea0a45976b6c7b82d9e32bcfc8d8362f52", func := "coachyard/coachyardlaw06.ArenaSteps", spec := "arenaSteps", unfollowed := true, recurses := true, apart := false, narrowed := true }
def ArenaStepsUptoSaid : Prop := arenaStepsUptoRow.holds Try.pinned (OpenSpec.upto arenaStepsSpec)

/-- 'coachyardlaw32.LanePlays', WHERE WHAT IT READS IS OF BULK AT MOST 1048576: true; the input reads as it did. -/
def lanePlaysUptoRow : OpenClaim := { program := "ytoogepoalbhlhaa", sum := "d4b805076270c4349a1a84db88c731ea0a45976b6c7b82d9e32bcfc8d8362f52", func := "coachyard/coachyardlaw32.LanePlays", spec := "lanePlays", unfollowed := true, recurses := true, apart := false, narrowed := true }
def LanePlaysUptoSaid : Prop := lanePlaysUptoRow.holds Try.pinned (OpenSpec.upto lanePlaysSpec)

/-- 'coachyardlaw32.LaneAlone', WHERE WHAT IT READS IS OF BULK AT MOST 1048576: true; the input reads as it did. -/
def laneAloneUptoRow : OpenClaim := { program := "ytoogepoalbhlhaa", sum := "d4b805076270c4349a1a84db88c731ea0a45976b6c7b82d9e32bcfc8d8362f52", func := "coachyard/coachyardlaw32.LaneAlone", spec := "laneAlone", unfollowed := true, recurses := true, apart := false, narrowed := true }
def LaneAloneUptoSaid : Prop := laneAloneUptoRow.holds Try.pinned (OpenSpec.upto laneAloneSpec)

/-- 'coachyardlaw32.LaneAll', WHERE WHAT IT READS IS OF BULK AT MOST 1048576: true; the input reads as it did. -/
def laneAllUptoRow : OpenClaim := { program := "ytoogepoalbhlhaa", sum := "d4b805076270c4349a1a84db88c731ea0a45976b6c7b82d9e32bcfc8d8362f52", func := "coachyard/coachyardlaw32.LaneAll", spec := "laneAll", unfollowed := true, recurses := true, apart := false, narrowed := true }
def LaneAllUptoSaid : Prop := laneAllUptoRow.holds Try.pinned (OpenSpec.upto laneAllSpec)

end Rows
end Go.Proofs.Ytoogepoalbhlhaa
