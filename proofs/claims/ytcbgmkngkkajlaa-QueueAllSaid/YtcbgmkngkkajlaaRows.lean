/-
  No cell of these rows narrows 'for every input' (looked for: loops, veiled, ifaces, maps, wideKeys, modest, calm, conditions, laid).
  DERIVED. THE GIVEN ROWS OF THIS SEAT. 5 by the template 'for every input the law returns true; each argument reads behind the call as it read before'; 0 by the template 'total and deterministic' (their statements: YtcbgmkngkkajlaaTotals.lean).
  GIVEN WITH THE SEED: the statements are not yours to turn. If you find one false, say at which input.
  Laid BY PROGRAM, IN A SANDBOX (cutbox-rows.mjs): the forced cells as the released guide's own fill.sh prints them over the translation 91e467408e8716e3… (all of the seat's roots in one cut). By AI agents, Wed Nov 11 2026. No macro, syntax, notation, axiom, sorry.
-/
import Derived.Test.YtcbgmkngkkajlaaChecked
import GoSem.Claim
import GoSem.ClaimJoined
import GoSem.ClaimMapViews
import Derived.JoinedTies
import Derived.KernelRfl
namespace Go.Proofs.Ytcbgmkngkkajlaa
/- THE CELL 'sum', in the pinned program and in every row, IS THE sha256 OF THE DUMP (.gsa) THAT YtcbgmkngkkajlaaProg.lean LOADS. Nothing in Lean hashes anything: it is a label: what it is worth is what the hold of that sum in a sandbox is worth. -/
noncomputable def Try.pinned : Pinned := { name := "ytcbgmkngkkajlaa", sum := "91e467408e8716e3955fdfe290c02fc48a1001fb03a91ec4db6a64adf59b8bdd", checked := Try.checked }
namespace Rows
def none {H : Type} : Left H := { results := [], args := [] }

/-- 'coachyardlaw09.QueueInits': WHATEVER THE INPUT: true; the input reads as it did. -/
def queueInitsSpec : ChangeSpec := { name := "queueInits", fn := fun _ => fun
  | [d1, d2, d3] => { results := [.lit (.bool true)], args := [d1, d2, d3] }
  | _ => none }
def queueInitsRow : OpenClaim := { program := "ytcbgmkngkkajlaa", sum := "91e467408e8716e3955fdfe290c02fc48a1001fb03a91ec4db6a64adf59b8bdd", func := "coachyard/coachyardlaw09.QueueInits", spec := "queueInits", unfollowed := true, recurses := true, apart := false }
def QueueInitsSaid : Prop := queueInitsRow.holds Try.pinned (OpenSpec.ofChange queueInitsSpec)

/-- ITS FALSE NEIGHBOUR: 'it returns false'. Refute it at one input. -/
def queueInitsWrong : ChangeSpec := { name := "queueInits", fn := fun _ => fun
  | [d1, d2, d3] => { results := [.lit (.bool false)], args := [d1, d2, d3] }
  | _ => none }
def QueueInitsWrongFalsely : Prop := queueInitsRow.holds Try.pinned (OpenSpec.ofChange queueInitsWrong)

/-- 'coachyardlaw09.QueueAll': WHATEVER THE INPUT: true; the input reads as it did. -/
def queueAllSpec : ChangeSpec := { name := "queueAll", fn := fun _ => fun
  | [d1, d2] => { results := [.lit (.bool true)], args := [d1, d2] }
  | _ => none }
def queueAllRow : OpenClaim := { program := "ytcbgmkngkkajlaa", sum := "91e467408e8716e3955fdfe290c02fc48a1001fb03a91ec4db6a64adf59b8bdd", func := "coachyard/coachyardlaw09.QueueAll", spec := "queueAll", unfollowed := true, recurses := true, apart := false }
def QueueAllSaid : Prop := queueAllRow.holds Try.pinned (OpenSpec.ofChange queueAllSpec)

/-- ITS FALSE NEIGHBOUR: 'it returns false'. Refute it at one input. -/
def queueAllWrong : ChangeSpec := { name := "queueAll", fn := fun _ => fun
  | [d1, d2] => { results := [.lit (.bool false)], args := [d1, d2] }
  | _ => none }
def QueueAllWrongFalsely : Prop := queueAllRow.holds Try.pinned (OpenSpec.ofChange queueAllWrong)

/-- 'coachyardlaw09.QueueAlone': WHATEVER THE INPUT: true; the input reads as it did. -/
def queueAloneSpec : ChangeSpec := { name := "queueAlone", fn := fun _ => fun
  | [d1, d2] => { results := [.lit (.bool true)], args := [d1, d2] }
  | _ => none }
def queueAloneRow : OpenClaim := { program := "ytcbgmkngkkajlaa", sum := "91e467408e8716e3955fdfe290c02fc48a1001fb03a91ec4db6a64adf59b8bdd", func := "coachyard/coachyardlaw09.QueueAlone", spec := "queueAlone", unfollowed := true, recurses := true, apart := false }
def QueueAloneSaid : Prop := queueAloneRow.holds Try.pinned (OpenSpec.ofChange queueAloneSpec)

/-- ITS FALSE NEIGHBOUR: 'it returns false'. Refute it at one input. -/
def queueAloneWrong : ChangeSpec := { name := "queueAlone", fn := fun _ => fun
  | [d1, d2] => { results := [.lit (.bool false)], args := [d1, d2] }
  | _ => none }
def QueueAloneWrongFalsely : Prop := queueAloneRow.holds Try.pinned (OpenSpec.ofChange queueAloneWrong)

/-- 'coachyardlaw09.QueuePlays': WHATEVER THE INPUT: true; the input reads as it did. -/
def queuePlaysSpec : ChangeSpec := { name := "queuePlays", fn := fun _ => fun
  | [d1, d2, d3] => { results := [.lit (.bool true)], args := [d1, d2, d3] }
  | _ => none }
def queuePlaysRow : OpenClaim := { program := "ytcbgmkngkkajlaa", sum := "91e467408e8716e3955fdfe290c02fc48a1001fb03a91ec4db6a64adf59b8bdd", func := "coachyard/coachyardlaw09.QueuePlays", spec := "queuePlays", unfollowed := true, recurses := true, apart := false }
def QueuePlaysSaid : Prop := queuePlaysRow.holds Try.pinned (OpenSpec.ofChange queuePlaysSpec)

/-- ITS FALSE NEIGHBOUR: 'it returns false'. Refute it at one input. -/
def queuePlaysWrong : ChangeSpec := { name := "queuePlays", fn := fun _ => fun
  | [d1, d2, d3] => { results := [.lit (.bool false)], args := [d1, d2, d3] }
  | _ => none }
def QueuePlaysWrongFalsely : Prop := queuePlaysRow.holds Try.pinned (OpenSpec.ofChange queuePlaysWrong)

/-- 'coachyardlaw09.QueueOrder': WHATEVER THE INPUT: true; the input reads as it did. -/
def queueOrderSpec : ChangeSpec := { name := "queueOrder", fn := fun _ => fun
  | [d1, d2, d3] => { results := [.lit (.bool true)], args := [d1, d2, d3] }
  | _ => none }
def queueOrderRow : OpenClaim := { program := "ytcbgmkngkkajlaa", sum := "91e467408e8716e3955fdfe290c02fc48a1001fb03a91ec4db6a64adf59b8bdd", func := "coachyard/coachyardlaw09.QueueOrder", spec := "queueOrder", unfollowed := true, recurses := true, apart := false }
def QueueOrderSaid : Prop := queueOrderRow.holds Try.pinned (OpenSpec.ofChange queueOrderSpec)

/-- ITS FALSE NEIGHBOUR: 'it returns false'. Refute it at one input. -/
def queueOrderWrong : ChangeSpec := { name := "queueOrder", fn := fun _ => fun
  | [d1, d2, d3] => { results := [.lit (.bool false)], args := [d1, d2, d3] }
  | _ => none }
def QueueOrderWrongFalsely : Prop := queueOrderRow.holds Try.pinned (OpenSpec.ofChange queueOrderWrong)

/- THE SECOND FORM. 'bulk': how many values and letters a reading holds, each counted each time it is reached (what is shared counts as often as it is met; a slice's spare places count too). A statement '..UptoSaid' is the law's where the arguments, and the package variables that the reading takes, are together of bulk at most 1048576: NARROWER than '..Said'. Prove '..Said' where nothing that the law and all that it calls make is longer than what came in: it says more and counts as full. Else prove '..UptoSaid'. A law counts once. -/
mutual
def uptoBulk {H : Type} : DataW H → Nat
  | .lit (.string bytes) => bytes.length + 1
  | .lit _ => 1
  | .nil => 1
  | .ptr d => uptoBulk d + 1
  | .slice elems spare => uptoBulkAll elems + uptoBulkAll spare + 1
  | .agg parts => uptoBulkAll parts + 1
  | .iface _ d => uptoBulk d + 1
  | .map entries => uptoBulkEntries entries + 1
  | .held _ => 1
def uptoBulkAll {H : Type} : List (DataW H) → Nat
  | [] => 0
  | d :: r => uptoBulk d + uptoBulkAll r
def uptoBulkEntries {H : Type} : List (Lit × DataW H) → Nat
  | [] => 0
  | x :: r => uptoBulkEntry x + uptoBulkEntries r
def uptoBulkEntry {H : Type} : Lit × DataW H → Nat
  | (.string bytes, d) => bytes.length + uptoBulk d + 1
  | (_, d) => uptoBulk d + 1
 end
def uptoSmall : (H : Type) → List (DataW H) → Bool := fun _ ds => decide (uptoBulkAll ds ≤ 1048576)
def OpenSpec.upto (s : _root_.Go.ChangeSpec) : _root_.Go.OpenSpec := { _root_.Go.OpenSpec.ofChange s with cond := some uptoSmall }

/-- 'coachyardlaw09.QueueInits', WHERE WHAT IT READS IS OF BULK AT MOST 1048576: true; the input reads as it did. -/
def queueInitsUptoRow : OpenClaim := { program := "ytcbgmkngkkajlaa", sum := "91e467408e8716e3955fdfe290c02fc48a1001fb03a91ec4db6a64adf59b8bdd", func := "coachyard/coachyardlaw09.QueueInits", spec := "queueInits", unfollowed := true, recurses := true, apart := false, narrowed := true }
def QueueInitsUptoSaid : Prop := queueInitsUptoRow.holds Try.pinned (OpenSpec.upto queueInitsSpec)

/-- 'coachyardlaw09.QueueAll', WHERE WHAT IT READS IS OF BULK AT MOST 1048576: true; the input reads as it did. -/
def queueAllUptoRow : OpenClaim := { program := "ytcbgmkngkkajlaa", sum := "91e467408e8716e3955fdfe290c02fc48a1001fb03a91ec4db6a64adf59b8bdd", func := "coachyard/coachyardlaw09.QueueAll", spec := "queueAll", unfollowed := true, recurses := true, apart := false, narrowed := true }
def QueueAllUptoSaid : Prop := queueAllUptoRow.holds Try.pinned (OpenSpec.upto queueAllSpec)

/-- 'coachyardlaw09.QueueAlone', WHERE WHAT IT READS IS OF BULK AT MOST 1048576: true; the input reads as it did. -/
def queueAloneUptoRow : OpenClaim := { program := "ytcbgmkngkkajlaa", sum := "91e467408e8716e3955fdfe290c02fc48a1001fb03a91ec4db6a64adf59b8bdd", func := "coachyard/coachyardlaw09.QueueAlone", spec := "queueAlone", unfollowed := true, recurses := true, apart := false, narrowed := true }
def QueueAloneUptoSaid : Prop := queueAloneUptoRow.holds Try.pinned (OpenSpec.upto queueAloneSpec)

/-- 'coachyardlaw09.QueuePlays', WHERE WHAT IT READS IS OF BULK AT MOST 1048576: true; the input reads as it did. -/
def queuePlaysUptoRow : OpenClaim := { program := "ytcbgmkngkkajlaa", sum := "91e467408e8716e3955fdfe290c02fc48a1001fb03a91ec4db6a64adf59b8bdd", func := "coachyard/coachyardlaw09.QueuePlays", spec := "queuePlays", unfollowed := true, recurses := true, apart := false, narrowed := true }
def QueuePlaysUptoSaid : Prop := queuePlaysUptoRow.holds Try.pinned (OpenSpec.upto queuePlaysSpec)

/-- 'coachyardlaw09.QueueOrder', WHERE WHAT IT READS IS OF BULK AT MOST 1048576: true; the input reads as it did. -/
def queueOrderUptoRow : OpenClaim := { program := "ytcbgmkngkkajlaa", sum := "91e467408e8716e3955fdfe290c02fc48a1001fb03a91ec4db6a64adf59b8bdd", func := "coachyard/coachyardlaw09.QueueOrder", spec := "queueOrder", unfollowed := true, recurses := true, apart := false, narrowed := true }
def QueueOrderUptoSaid : Prop := queueOrderUptoRow.holds Try.pinned (OpenSpec.upto queueOrderSpec)

end Rows
end Go.Proofs.Ytcbgmkngkkajlaa
