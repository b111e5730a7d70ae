/-
  No cell of these rows narrows 'for every input' (looked for: loops, veiled, ifaces, maps, wideKeys, modest, calm, conditions, laid).
  DERIVED. THE GIVEN ROWS OF THIS SEAT. 11 by the template 'for every input the law returns true; each argument reads behind the call as it read before'; 0 by the template 'total and deterministic' (their statements: YtjcphbcjnjeccaaTotals.lean).
  GIVEN WITH THE SEED: the statements are not yours to turn. If you find one false, say at which input.
  Laid BY PROGRAM, IN A SANDBOX (cutbox-rows.mjs): the forced cells as the released guide's own fill.sh prints them over the translation d77cec5664411c14… (all of the seat's roots in one cut). By AI agents, Wed Nov 11 2026. No macro, syntax, notation, axiom, sorry.
-/
import Derived.Test.YtjcphbcjnjeccaaChecked
import GoSem.Claim
import GoSem.ClaimJoined
import GoSem.ClaimMapViews
import Derived.JoinedTies
import Derived.KernelRfl
namespace Go.Proofs.Ytjcphbcjnjeccaa
/- THE CELL 'sum', in the pinned program and in every row, IS THE sha256 OF THE DUMP (.gsa) THAT YtjcphbcjnjeccaaProg.lean LOADS. Nothing in Lean hashes anything: it is a label: what it is worth is what the hold of that sum in a sandbox is worth. -/
noncomputable def Try.pinned : Pinned := { name := "ytjcphbcjnjeccaa", sum := "d77cec5664411c1474a8c0e13b60f662a67e46e560b349eaf0c09603b9eceafd", checked := Try.checked }
namespace Rows
def none {H : Type} : Left H := { results := [], args := [] }

/-- 'coachyardlaw07.DequeAll': WHATEVER THE INPUT: true; the input reads as it did. -/
def dequeAllSpec : ChangeSpec := { name := "dequeAll", fn := fun _ => fun
  | [d1, d2] => { results := [.lit (.bool true)], args := [d1, d2] }
  | _ => none }
def dequeAllRow : OpenClaim := { program := "ytjcphbcjnjeccaa", sum := "d77cec5664411c1474a8c0e13b60f662a67e46e560b349eaf0c09603b9eceafd", func := "coachyard/coachyardlaw07.DequeAll", spec := "dequeAll", unfollowed := true, recurses := true, apart := false }
def DequeAllSaid : Prop := dequeAllRow.holds Try.pinned (OpenSpec.ofChange dequeAllSpec)

/-- ITS FALSE NEIGHBOUR: 'it returns false'. Refute it at one input. -/
def dequeAllWrong : ChangeSpec := { name := "dequeAll", fn := fun _ => fun
  | [d1, d2] => { results := [.lit (.bool false)], args := [d1, d2] }
  | _ => none }
def DequeAllWrongFalsely : Prop := dequeAllRow.holds Try.pinned (OpenSpec.ofChange dequeAllWrong)

/-- 'coachyardlaw07.DequeAlone': WHATEVER THE INPUT: true; the input reads as it did. -/
def dequeAloneSpec : ChangeSpec := { name := "dequeAlone", fn := fun _ => fun
  | [d1, d2, d3] => { results := [.lit (.bool true)], args := [d1, d2, d3] }
  | _ => none }
def dequeAloneRow : OpenClaim := { program := "ytjcphbcjnjeccaa", sum := "d77cec5664411c1474a8c0e13b60f662a67e46e560b349eaf0c09603b9eceafd", func := "coachyard/coachyardlaw07.DequeAlone", spec := "dequeAlone", unfollowed := true, recurses := true, apart := false }
def DequeAloneSaid : Prop := dequeAloneRow.holds Try.pinned (OpenSpec.ofChange dequeAloneSpec)

/-- ITS FALSE NEIGHBOUR: 'it returns false'. Refute it at one input. -/
def dequeAloneWrong : ChangeSpec := { name := "dequeAlone", fn := fun _ => fun
  | [d1, d2, d3] => { results := [.lit (.bool false)], args := [d1, d2, d3] }
  | _ => none }
def DequeAloneWrongFalsely : Prop := dequeAloneRow.holds Try.pinned (OpenSpec.ofChange dequeAloneWrong)

/-- 'coachyardlaw07.DequeSteps': WHATEVER THE INPUT: true; the input reads as it did. -/
def dequeStepsSpec : ChangeSpec := { name := "dequeSteps", fn := fun _ => fun
  | [d1, d2, d3] => { results := [.lit (.bool true)], args := [d1, d2, d3] }
  | _ => none }
def dequeStepsRow : OpenClaim := { program := "ytjcphbcjnjeccaa", sum := "d77cec5664411c1474a8c0e13b60f662a67e46e560b349eaf0c09603b9eceafd", func := "coachyard/coachyardlaw07.DequeSteps", spec := "dequeSteps", unfollowed := true, recurses := true, apart := false }
def DequeStepsSaid : Prop := dequeStepsRow.holds Try.pinned (OpenSpec.ofChange dequeStepsSpec)

/-- ITS FALSE NEIGHBOUR: 'it returns false'. Refute it at one input. -/
def dequeStepsWrong : ChangeSpec := { name := "dequeSteps", fn := fun _ => fun
  | [d1, d2, d3] => { results := [.lit (.bool false)], args := [d1, d2, d3] }
  | _ => none }
def DequeStepsWrongFalsely : Prop := dequeStepsRow.holds Try.pinned (OpenSpec.ofChange dequeStepsWrong)

/-- 'coachyardlaw07.DequeSteals': WHATEVER THE INPUT: true; the input reads as it did. -/
def dequeStealsSpec : ChangeSpec := { name := "dequeSteals", fn := fun _ => fun
  | [d1, d2, d3] => { results := [.lit (.bool true)], args := [d1, d2, d3] }
  | _ => none }
def dequeStealsRow : OpenClaim := { program := "ytjcphbcjnjeccaa", sum := "d77cec5664411c1474a8c0e13b60f662a67e46e560b349eaf0c09603b9eceafd", func := "coachyard/coachyardlaw07.DequeSteals", spec := "dequeSteals", unfollowed := true, recurses := true, apart := false }
def DequeStealsSaid : Prop := dequeStealsRow.holds Try.pinned (OpenSpec.ofChange dequeStealsSpec)

/-- ITS FALSE NEIGHBOUR: 'it returns false'. Refute it at one input. -/
def dequeStealsWrong : ChangeSpec := { name := "dequeSteals", fn := fun _ => fun
  | [d1, d2, d3] => { results := [.lit (.bool false)], args := [d1, d2, d3] }
  | _ => none }
def DequeStealsWrongFalsely : Prop := dequeStealsRow.holds Try.pinned (OpenSpec.ofChange dequeStealsWrong)

/-- 'coachyardlaw07.DequePlays': WHATEVER THE INPUT: true; the input reads as it did. -/
def dequePlaysSpec : ChangeSpec := { name := "dequePlays", fn := fun _ => fun
  | [d1, d2, d3, d4] => { results := [.lit (.bool true)], args := [d1, d2, d3, d4] }
  | _ => none }
def dequePlaysRow : OpenClaim := { program := "ytjcphbcjnjeccaa", sum := "d77cec5664411c1474a8c0e13b60f662a67e46e560b349eaf0c09603b9eceafd", func := "coachyard/coachyardlaw07.DequePlays", spec := "dequePlays", unfollowed := true, recurses := true, apart := false }
def DequePlaysSaid : Prop := dequePlaysRow.holds Try.pinned (OpenSpec.ofChange dequePlaysSpec)

/-- ITS FALSE NEIGHBOUR: 'it returns false'. Refute it at one input. -/
def dequePlaysWrong : ChangeSpec := { name := "dequePlays", fn := fun _ => fun
  | [d1, d2, d3, d4] => { results := [.lit (.bool false)], args := [d1, d2, d3, d4] }
  | _ => none }
def DequePlaysWrongFalsely : Prop := dequePlaysRow.holds Try.pinned (OpenSpec.ofChange dequePlaysWrong)

/-- 'coachyardlaw08.RingAll': WHATEVER THE INPUT: true; the input reads as it did. -/
def ringAllSpec : ChangeSpec := { name := "ringAll", fn := fun _ => fun
  | [d1, d2] => { results := [.lit (.bool true)], args := [d1, d2] }
  | _ => none }
def ringAllRow : OpenClaim := { program := "ytjcphbcjnjeccaa", sum := "d77cec5664411c1474a8c0e13b60f662a67e46e560b349eaf0c09603b9eceafd", func := "coachyard/coachyardlaw08.RingAll", spec := "ringAll", unfollowed := true, recurses := true, apart := false }
def RingAllSaid : Prop := ringAllRow.holds Try.pinned (OpenSpec.ofChange ringAllSpec)

/-- ITS FALSE NEIGHBOUR: 'it returns false'. Refute it at one input. -/
def ringAllWrong : ChangeSpec := { name := "ringAll", fn := fun _ => fun
  | [d1, d2] => { results := [.lit (.bool false)], args := [d1, d2] }
  | _ => none }
def RingAllWrongFalsely : Prop := ringAllRow.holds Try.pinned (OpenSpec.ofChange ringAllWrong)

/-- 'coachyardlaw08.RingAlone': WHATEVER THE INPUT: true; the input reads as it did. -/
def ringAloneSpec : ChangeSpec := { name := "ringAlone", fn := fun _ => fun
  | [d1, d2, d3] => { results := [.lit (.bool true)], args := [d1, d2, d3] }
  | _ => none }
def ringAloneRow : OpenClaim := { program := "ytjcphbcjnjeccaa", sum := "d77cec5664411c1474a8c0e13b60f662a67e46e560b349eaf0c09603b9eceafd", func := "coachyard/coachyardlaw08.RingAlone", spec := "ringAlone", unfollowed := true, recurses := true, apart := false }
def RingAloneSaid : Prop := ringAloneRow.holds Try.pinned (OpenSpec.ofChange ringAloneSpec)

/-- ITS FALSE NEIGHBOUR: 'it returns false'. Refute it at one input. -/
def ringAloneWrong : ChangeSpec := { name := "ringAlone", fn := fun _ => fun
  | [d1, d2, d3] => { results := [.lit (.bool false)], args := [d1, d2, d3] }
  | _ => none }
def RingAloneWrongFalsely : Prop := ringAloneRow.holds Try.pinned (OpenSpec.ofChange ringAloneWrong)

/-- 'coachyardlaw08.RingPlays': WHATEVER THE INPUT: true; the input reads as it did. -/
def ringPlaysSpec : ChangeSpec := { name := "ringPlays", fn := fun _ => fun
  | [d1, d2, d3, d4] => { results := [.lit (.bool true)], args := [d1, d2, d3, d4] }
  | _ => none }
def ringPlaysRow : OpenClaim := { program := "ytjcphbcjnjeccaa", sum := "d77cec5664411c1474a8c0e13b60f662a67e46e560b349eaf0c09603b9eceafd", func := "coachyard/coachyardlaw08.RingPlays", spec := "ringPlays", unfollowed := true, recurses := true, apart := false }
def RingPlaysSaid : Prop := ringPlaysRow.holds Try.pinned (OpenSpec.ofChange ringPlaysSpec)

/-- ITS FALSE NEIGHBOUR: 'it returns false'. Refute it at one input. -/
def ringPlaysWrong : ChangeSpec := { name := "ringPlays", fn := fun _ => fun
  | [d1, d2, d3, d4] => { results := [.lit (.bool false)], args := [d1, d2, d3, d4] }
  | _ => none }
def RingPlaysWrongFalsely : Prop := ringPlaysRow.holds Try.pinned (OpenSpec.ofChange ringPlaysWrong)

/-- 'coachyardlaw22.PicksCount': WHATEVER THE INPUT: true; the input reads as it did. -/
def picksCountSpec : ChangeSpec := { name := "picksCount", fn := fun _ => fun
  | [d1, d2] => { results := [.lit (.bool true)], args := [d1, d2] }
  | _ => none }
def picksCountRow : OpenClaim := { program := "ytjcphbcjnjeccaa", sum := "d77cec5664411c1474a8c0e13b60f662a67e46e560b349eaf0c09603b9eceafd", func := "coachyard/coachyardlaw22.PicksCount", spec := "picksCount", unfollowed := true, recurses := true, apart := false }
def PicksCountSaid : Prop := picksCountRow.holds Try.pinned (OpenSpec.ofChange picksCountSpec)

/-- ITS FALSE NEIGHBOUR: 'it returns false'. Refute it at one input. -/
def picksCountWrong : ChangeSpec := { name := "picksCount", fn := fun _ => fun
  | [d1, d2] => { results := [.lit (.bool false)], args := [d1, d2] }
  | _ => none }
def PicksCountWrongFalsely : Prop := picksCountRow.holds Try.pinned (OpenSpec.ofChange picksCountWrong)

/-- 'coachyardlaw22.PicksBegin': WHATEVER THE INPUT: true; the input reads as it did. -/
def picksBeginSpec : ChangeSpec := { name := "picksBegin", fn := fun _ => fun
  | [d1, d2, d3, d4, d5, d6] => { results := [.lit (.bool true)], args := [d1, d2, d3, d4, d5, d6] }
  | _ => none }
def picksBeginRow : OpenClaim := { program := "ytjcphbcjnjeccaa", sum := "d77cec5664411c1474a8c0e13b60f662a67e46e560b349eaf0c09603b9eceafd", func := "coachyard/coachyardlaw22.PicksBegin", spec := "picksBegin", unfollowed := true, recurses := true, apart := false }
def PicksBeginSaid : Prop := picksBeginRow.holds Try.pinned (OpenSpec.ofChange picksBeginSpec)

/-- ITS FALSE NEIGHBOUR: 'it returns false'. Refute it at one input. -/
def picksBeginWrong : ChangeSpec := { name := "picksBegin", fn := fun _ => fun
  | [d1, d2, d3, d4, d5, d6] => { results := [.lit (.bool false)], args := [d1, d2, d3, d4, d5, d6] }
  | _ => none }
def PicksBeginWrongFalsely : Prop := picksBeginRow.holds Try.pinned (OpenSpec.ofChange picksBeginWrong)

/-- 'coachyardlaw22.PicksAre': WHATEVER THE INPUT: true; the input reads as it did. -/
def picksAreSpec : ChangeSpec := { name := "picksAre", fn := fun _ => fun
  | [d1, d2, d3, d4, d5] => { results := [.lit (.bool true)], args := [d1, d2, d3, d4, d5] }
  | _ => none }
def picksAreRow : OpenClaim := { program := "ytjcphbcjnjeccaa", sum := "d77cec5664411c1474a8c0e13b60f662a67e46e560b349eaf0c09603b9eceafd", func := "coachyard/coachyardlaw22.PicksAre", spec := "picksAre", unfollowed := true, recurses := true, apart := false }
def PicksAreSaid : Prop := picksAreRow.holds Try.pinned (OpenSpec.ofChange picksAreSpec)

/-- ITS FALSE NEIGHBOUR: 'it returns false'. Refute it at one input. -/
def picksAreWrong : ChangeSpec := { name := "picksAre", fn := fun _ => fun
  | [d1, d2, d3, d4, d5] => { results := [.lit (.bool false)], args := [d1, d2, d3, d4, d5] }
  | _ => none }
def PicksAreWrongFalsely : Prop := picksAreRow.holds Try.pinned (OpenSpec.ofChange picksAreWrong)

/- THE SECOND FORM. 'bulk': how many values and letters a reading holds, each counted each time it is reached (what is shared counts as often as it is met; a slice's spare places count too). A statement '..UptoSaid' is the law's where the arguments, and the package variables that the reading takes, are together of bulk at most 1048576: NARROWER than '..Said'. Prove '..Said' where nothing that the law and all that it calls make is longer than what came in: it says more and counts as full. Else prove '..UptoSaid'. A law counts once. -/
mutual
def uptoBulk {H : Type} : DataW H → Nat
  | .lit (.string bytes) => bytes.length + 1
  | .lit _ => 1
  | .nil => 1
  | .ptr d => uptoBulk d + 1
  | .slice elems spare => uptoBulkAll elems + uptoBulkAll spare + 1
  | .agg parts => uptoBulkAll parts + 1
  | .iface _ d => uptoBulk d + 1
  | .map entries => uptoBulkEntries entries + 1
  | .held _ => 1
def uptoBulkAll {H : Type} : List (DataW H) → Nat
  | [] => 0
  | d :: r => uptoBulk d + uptoBulkAll r
def uptoBulkEntries {H : Type} : List (Lit × DataW H) → Nat
  | [] => 0
  | x :: r => uptoBulkEntry x + uptoBulkEntries r
def uptoBulkEntry {H : Type} : Lit × DataW H → Nat
  | (.string bytes, d) => bytes.length + uptoBulk d + 1
  | (_, d) => uptoBulk d + 1
 end
def uptoSmall : (H : Type) → List (DataW H) → Bool := fun _ ds => decide (uptoBulkAll ds ≤ 1048576)
def OpenSpec.upto (s : _root_.Go.ChangeSpec) : _root_.Go.OpenSpec := { _root_.Go.OpenSpec.ofChange s with cond := some uptoSmall }

/-- 'coachyardlaw07.DequeAll', WHERE WHAT IT READS IS OF BULK AT MOST 1048576: true; the input reads as it did. -/
def dequeAllUptoRow : OpenClaim := { program := "ytjcphbcjnjeccaa", sum := "d77cec5664411c1474a8c0e13b60f662a67e46e560b349eaf0c09603b9eceafd", func := "coachyard/coachyardlaw07.DequeAll", spec := "dequeAll", unfollowed := true, recurses := true, apart := false, narrowed := true }
def DequeAllUptoSaid : Prop := dequeAllUptoRow.holds Try.pinned (OpenSpec.upto dequeAllSpec)

/-- 'coachyardlaw07.DequeAlone', WHERE WHAT IT READS IS OF BULK AT MOST 1048576: true; the input reads as it did. -/
def dequeAloneUptoRow : OpenClaim := { program := "ytjcphbcjnjeccaa", sum := "d77cec5664411c1474a8c0e13b60f662a67e46e560b349eaf0c09603b9eceafd", func := "coachyard/coachyardlaw07.DequeAlone", spec := "dequeAlone", unfollowed := true, recurses := true, apart := false, narrowed := true }
def DequeAloneUptoSaid : Prop := dequeAloneUptoRow.holds Try.pinned (OpenSpec.upto dequeAloneSpec)

/-- 'coachyardlaw07.DequeSteps', WHERE WHAT IT READS IS OF BULK AT MOST 1048576: true; the input reads as it did. -/
def dequeStepsUptoRow : OpenClaim := { program := "ytjcphbcjnjeccaa", sum := "d77cec5664411c1474a8c0e13b60f662a67e46e560b349eaf0c09603b9eceafd", func := "coachyard/coachyardlaw07.DequeSteps", spec := "dequeSteps", unfollowed := true, recurses := true, apart := false, narrowed := true }
def DequeStepsUptoSaid : Prop := dequeStepsUptoRow.holds Try.pinned (OpenSpec.upto dequeStepsSpec)

/-- 'coachyardlaw07.DequeSteals', WHERE WHAT IT READS IS OF BULK AT MOST 1048576: true; the input reads as it did. -/
def dequeStealsUptoRow : OpenClaim := { program := "ytjcphbcjnjeccaa", sum := "d77cec5664411c1474a8c0e13b60f662a67e46e560b349eaf0c09603b9eceafd", func := "coachyard/coachyardlaw07.DequeSteals", spec := "dequeSteals", unfollowed := true, recurses := true, apart := false, narrowed := true }
def DequeStealsUptoSaid : Prop := dequeStealsUptoRow.holds Try.pinned (OpenSpec.upto dequeStealsSpec)

/-- 'coachyardlaw07.DequePlays', WHERE WHAT IT READS IS OF BULK AT MOST 1048576: true; the input reads as it did. -/
def dequePlaysUptoRow : OpenClaim := { program := "ytjcphbcjnjeccaa", sum := "d77cec5664411c1474a8c0e13b60f662a67e46e560b349eaf0c09603b9eceafd", func := "coachyard/coachyardlaw07.DequePlays", spec := "dequePlays", unfollowed := true, recurses := true, apart := false, narrowed := true }
def DequePlaysUptoSaid : Prop := dequePlaysUptoRow.holds Try.pinned (OpenSpec.upto dequePlaysSpec)

/-- 'coachyardlaw08.RingAll', WHERE WHAT IT READS IS OF BULK AT MOST 1048576: true; the input reads as it did. -/
def ringAllUptoRow : OpenClaim := { program := "ytjcphbcjnjeccaa", sum := "d77cec5664411c1474a8c0e13b60f662a67e46e560b349eaf0c09603b9eceafd", func := "coachyard/coachyardlaw08.RingAll", spec := "ringAll", unfollowed := true, recurses := true, apart := false, narrowed := true }
def RingAllUptoSaid : Prop := ringAllUptoRow.holds Try.pinned (OpenSpec.upto ringAllSpec)

/-- 'coachyardlaw08.RingAlone', WHERE WHAT IT READS IS OF BULK AT MOST 1048576: true; the input reads as it did. -/
def ringAloneUptoRow : OpenClaim := { program := "ytjcphbcjnjeccaa", sum := "d77cec5664411c1474a8c0e13b60f662a67e46e560b349eaf0c09603b9eceafd", func := "coachyard/coachyardlaw08.RingAlone", spec := "ringAlone", unfollowed := true, recurses := true, apart := false, narrowed := true }
def RingAloneUptoSaid : Prop := ringAloneUptoRow.holds Try.pinned (OpenSpec.upto ringAloneSpec)

/-- 'coachyardlaw08.RingPlays', WHERE WHAT IT READS IS OF BULK AT MOST 1048576: true; the input reads as it did. -/
def ringPlaysUptoRow : OpenClaim := { program := "ytjcphbcjnjeccaa", sum := "d77cec5664411c1474a8c0e13b60f662a67e46e560b349eaf0c09603b9eceafd", func := "coachyard/coachyardlaw08.RingPlays", spec := "ringPlays", unfollowed := true, recurses := true, apart := false, narrowed := true }
def RingPlaysUptoSaid : Prop := ringPlaysUptoRow.holds Try.pinned (OpenSpec.upto ringPlaysSpec)

/-- 'coachyardlaw22.PicksCount', WHERE WHAT IT READS IS OF BULK AT MOST 1048576: true; the input reads as it did. -/
def picksCountUptoRow : OpenClaim := { program := "ytjcphbcjnjeccaa", sum := "d77cec5664411c1474a8c0e13b60f662a67e46e560b349eaf0c09603b9eceafd", func := "coachyard/coachyardlaw22.PicksCount", spec := "picksCount", unfollowed := true, recurses := true, apart := false, narrowed := true }
def PicksCountUptoSaid : Prop := picksCountUptoRow.holds Try.pinned (OpenSpec.upto picksCountSpec)

/-- 'coachyardlaw22.PicksBegin', WHERE WHAT IT READS IS OF BULK AT MOST 1048576: true; the input reads as it did. -/
def picksBeginUptoRow : OpenClaim := { program := "ytjcphbcjnjeccaa", sum := "d77cec5664411c1474a8c0e13b60f662a67e46e560b349eaf0c09603b9eceafd", func := "coachyard/coachyardlaw22.PicksBegin", spec := "picksBegin", unfollowed := true, recurses := true, apart := false, narrowed := true }
def PicksBeginUptoSaid : Prop := picksBeginUptoRow.holds Try.pinned (OpenSpec.upto picksBeginSpec)

/-- 'coachyardlaw22.PicksAre', WHERE WHAT IT READS IS OF BULK AT MOST 1048576: true; the input reads as it did. -/
def picksAreUptoRow : OpenClaim := { program := "ytjcphbcjnjeccaa", sum := "d77cec5664411c1474a8c0e13b60f662a67e46e560b349eaf0c09603b9eceafd", func := "coachyard/coachyardlaw22.PicksAre", spec := "picksAre", unfollowed := true, recurses := true, apart := false, narrowed := true }
def PicksAreUptoSaid : Prop := picksAreUptoRow.holds Try.pinned (OpenSpec.upto picksAreSpec)

end Rows
end Go.Proofs.Ytjcphbcjnjeccaa
