/-
  No cell of these rows narrows 'for every input' (looked for: loops, veiled, ifaces, maps, wideKeys, modest, calm, conditions, laid).
  DERIVED. THE GIVEN ROWS OF THIS SEAT. 11 by the template 'for every input the law returns true; each argument reads behind the call as it read before'; 0 by the template 'total and deterministic' (their statements: YtlmenjenkpnacaaTotals.lean).
  GIVEN WITH THE SEED: the statements are not yours to turn. If you find one false, say at which input.
  Laid BY PROGRAM, IN A SANDBOX (cutbox-rows.mjs): the forced cells as the released guide's own fill.sh prints them over the translation 3e73c07682b0af6e… (all of the seat's roots in one cut). By AI agents, Wed Nov 11 2026. No macro, syntax, notation, axiom, sorry.
-/
import Derived.Test.YtlmenjenkpnacaaChecked
import GoSem.Claim
import GoSem.ClaimJoined
import GoSem.ClaimMapViews
import Derived.JoinedTies
import Derived.KernelRfl
namespace Go.Proofs.Ytlmenjenkpnacaa
/- THE CELL 'sum', in the pinned program and in every row, IS THE sha256 OF THE DUMP (.gsa) THAT YtlmenjenkpnacaaProg.lean LOADS. Nothing in Lean hashes anything: it is a label: what it is worth is what the hold of that sum in a sandbox is worth. -/
noncomputable def Try.pinned : Pinned := { name := "ytlmenjenkpnacaa", sum := "3e73c07682b0af6e17031964d8c6167d84b3872ef14464ca7af055a717ce8d4a", checked := Try.checked }
namespace Rows
def none {H : Type} : Left H := { results := [], args := [] }

/-- 'coachyardlaw06.ArenaInits': WHATEVER THE INPUT: true; the input reads as it did. -/
def arenaInitsSpec : ChangeSpec := { name := "arenaInits", fn := fun _ => fun
  | [d1, d2, d3, d4] => { results := [.lit (.bool true)], args := [d1, d2, d3, d4] }
  | _ => none }
def arenaInitsRow : OpenClaim := { program := "ytlmenjenkpnacaa", sum := "3e73c07682b0af6e17031964d8c6167d84b3872ef14464ca7af055a717ce8d4a", func := "coachyard/coachyardlaw06.ArenaInits", spec := "arenaInits", unfollowed := true, recurses := true, apart := false }
def ArenaInitsSaid : Prop := arenaInitsRow.holds Try.pinned (OpenSpec.ofChange arenaInitsSpec)

/-- ITS FALSE NEIGHBOUR: 'it returns false'. Refute it at one input. -/
def arenaInitsWrong : ChangeSpec := { name := "arenaInits", fn := fun _ => fun
  | [d1, d2, d3, d4] => { results := [.lit (.bool false)], args := [d1, d2, d3, d4] }
  | _ => none }
def ArenaInitsWrongFalsely : Prop := arenaInitsRow.holds Try.pinned (OpenSpec.ofChange arenaInitsWrong)

/-- 'coachyardlaw06.ArenaOnce': WHATEVER THE INPUT: true; the input reads as it did. -/
def arenaOnceSpec : ChangeSpec := { name := "arenaOnce", fn := fun _ => fun
  | [d1, d2, d3] => { results := [.lit (.bool true)], args := [d1, d2, d3] }
  | _ => none }
def arenaOnceRow : OpenClaim := { program := "ytlmenjenkpnacaa", sum := "3e73c07682b0af6e17031964d8c6167d84b3872ef14464ca7af055a717ce8d4a", func := "coachyard/coachyardlaw06.ArenaOnce", spec := "arenaOnce", unfollowed := true, recurses := true, apart := false }
def ArenaOnceSaid : Prop := arenaOnceRow.holds Try.pinned (OpenSpec.ofChange arenaOnceSpec)

/-- ITS FALSE NEIGHBOUR: 'it returns false'. Refute it at one input. -/
def arenaOnceWrong : ChangeSpec := { name := "arenaOnce", fn := fun _ => fun
  | [d1, d2, d3] => { results := [.lit (.bool false)], args := [d1, d2, d3] }
  | _ => none }
def ArenaOnceWrongFalsely : Prop := arenaOnceRow.holds Try.pinned (OpenSpec.ofChange arenaOnceWrong)

/-- 'coachyardlaw06.ArenaSteps': WHATEVER THE INPUT: true; the input reads as it did. -/
def arenaStepsSpec : ChangeSpec := { name := "arenaSteps", fn := fun _ => fun
  | [d1, d2, d3] => { results := [.lit (.bool true)], args := [d1, d2, d3] }
  | _ => none }
def arenaStepsRow : OpenClaim := { program := "ytlmenjenkpnacaa", sum := "3e73c07682b0af6e17031964d8c6167d84b3872ef14464ca7af055a717ce8d4a", func := "coachyard/coachyardlaw06.ArenaSteps", spec := "arenaSteps", unfollowed := true, recurses := true, apart := false }
def ArenaStepsSaid : Prop := arenaStepsRow.holds Try.pinned (OpenSpec.ofChange arenaStepsSpec)

/-- ITS FALSE NEIGHBOUR: 'it returns false'. Refute it at one input. -/
def arenaStepsWrong : ChangeSpec := { name := "arenaSteps", fn := fun _ => fun
  | [d1, d2, d3] => { results := [.lit (.bool false)], args := [d1, d2, d3] }
  | _ => none }
def ArenaStepsWrongFalsely : Prop := arenaStepsRow.holds Try.pinned (OpenSpec.ofChange arenaStepsWrong)

/-- 'coachyardlaw32.LaneAll': WHATEVER THE INPUT: true; the input reads as it did. -/
def laneAllSpec : ChangeSpec := { name := "laneAll", fn := fun _ => fun
  | [d1, d2, d3] => { results := [.lit (.bool true)], args := [d1, d2, d3] }
  | _ => none }
def laneAllRow : OpenClaim := { program := "ytlmenjenkpnacaa", sum := "3e73c07682b0af6e17031964d8c6167d84b3872ef14464ca7af055a717ce8d4a", func := "coachyard/coachyardlaw32.LaneAll", spec := "laneAll", unfollowed := true, recurses := true, apart := false }
def LaneAllSaid : Prop := laneAllRow.holds Try.pinned (OpenSpec.ofChange laneAllSpec)

/-- ITS FALSE NEIGHBOUR: 'it returns false'. Refute it at one input. -/
def laneAllWrong : ChangeSpec := { name := "laneAll", fn := fun _ => fun
  | [d1, d2, d3] => { results := [.lit (.bool false)], args := [d1, d2, d3] }
  | _ => none }
def LaneAllWrongFalsely : Prop := laneAllRow.holds Try.pinned (OpenSpec.ofChange laneAllWrong)

/-- 'coachyardlaw32.LaneAlone': WHATEVER THE INPUT: true; the input reads as it did. -/
def laneAloneSpec : ChangeSpec := { name := "laneAlone", fn := fun _ => fun
  | [d1, d2, d3] => { results := [.lit (.bool true)], args := [d1, d2, d3] }
  | _ => none }
def laneAloneRow : OpenClaim := { program := "ytlmenjenkpnacaa", sum := "3e73c07682b0af6e17031964d8c6167d84b3872ef14464ca7af055a717ce8d4a", func := "coachyard/coachyardlaw32.LaneAlone", spec := "laneAlone", unfollowed := true, recurses := true, apart := false }
def LaneAloneSaid : Prop := laneAloneRow.holds Try.pinned (OpenSpec.ofChange laneAloneSpec)

/-- ITS FALSE NEIGHBOUR: 'it returns false'. Refute it at one input. -/
def laneAloneWrong : ChangeSpec := { name := "laneAlone", fn := fun _ => fun
  | [d1, d2, d3] => { results := [.lit (.bool false)], args := [d1, d2, d3] }
  | _ => none }
def LaneAloneWrongFalsely : Prop := laneAloneRow.holds Try.pinned (OpenSpec.ofChange laneAloneWrong)

/-- 'coachyardlaw32.LaneSteps': WHATEVER THE INPUT: true; the input reads as it did. -/
def laneStepsSpec : ChangeSpec := { name := "laneSteps", fn := fun _ => fun
  | [d1, d2, d3] => { results := [.lit (.bool true)], args := [d1, d2, d3] }
  | _ => none }
def laneStepsRow : OpenClaim := { program := "ytlmenjenkpnacaa", sum := "3e73c07682b0af6e17031964d8c6167d84b3872ef14464ca7af055a717ce8d4a", func := "coachyard/coachyardlaw32.LaneSteps", spec := "laneSteps", unfollowed := true, recurses := true, apart := false }
def LaneStepsSaid : Prop := laneStepsRow.holds Try.pinned (OpenSpec.ofChange laneStepsSpec)

/-- ITS FALSE NEIGHBOUR: 'it returns false'. Refute it at one input. -/
def laneStepsWrong : ChangeSpec := { name := "laneSteps", fn := fun _ => fun
  | [d1, d2, d3] => { results := [.lit (.bool false)], args := [d1, d2, d3] }
  | _ => none }
def LaneStepsWrongFalsely : Prop := laneStepsRow.holds Try.pinned (OpenSpec.ofChange laneStepsWrong)

/-- 'coachyardlaw32.LanePlays': WHATEVER THE INPUT: true; the input reads as it did. -/
def lanePlaysSpec : ChangeSpec := { name := "lanePlays", fn := fun _ => fun
  | [d1, d2, d3, d4] => { results := [.lit (.bool true)], args := [d1, d2, d3, d4] }
  | _ => none }
def lanePlaysRow : OpenClaim := { program := "ytlmenjenkpnacaa", sum := "3e73c07682b0af6e17031964d8c6167d84b3872ef14464ca7af055a717ce8d4a", func := "coachyard/coachyardlaw32.LanePlays", spec := "lanePlays", unfollowed := true, recurses := true, apart := false }
def LanePlaysSaid : Prop := lanePlaysRow.holds Try.pinned (OpenSpec.ofChange lanePlaysSpec)

/-- ITS FALSE NEIGHBOUR: 'it returns false'. Refute it at one input. -/
def lanePlaysWrong : ChangeSpec := { name := "lanePlays", fn := fun _ => fun
  | [d1, d2, d3, d4] => { results := [.lit (.bool false)], args := [d1, d2, d3, d4] }
  | _ => none }
def LanePlaysWrongFalsely : Prop := lanePlaysRow.holds Try.pinned (OpenSpec.ofChange lanePlaysWrong)

/-- 'coachyardlaw07.DequeSteps': WHATEVER THE INPUT: true; the input reads as it did. -/
def dequeStepsSpec : ChangeSpec := { name := "dequeSteps", fn := fun _ => fun
  | [d1, d2, d3] => { results := [.lit (.bool true)], args := [d1, d2, d3] }
  | _ => none }
def dequeStepsRow : OpenClaim := { program := "ytlmenjenkpnacaa", sum := "3e73c07682b0af6e17031964d8c6167d84b3872ef14464ca7af055a717ce8d4a", func := "coachyard/coachyardlaw07.DequeSteps", spec := "dequeSteps", unfollowed := true, recurses := true, apart := false }
def DequeStepsSaid : Prop := dequeStepsRow.holds Try.pinned (OpenSpec.ofChange dequeStepsSpec)

/-- ITS FALSE NEIGHBOUR: 'it returns false'. Refute it at one input. -/
def dequeStepsWrong : ChangeSpec := { name := "dequeSteps", fn := fun _ => fun
  | [d1, d2, d3] => { results := [.lit (.bool false)], args := [d1, d2, d3] }
  | _ => none }
def DequeStepsWrongFalsely : Prop := dequeStepsRow.holds Try.pinned (OpenSpec.ofChange dequeStepsWrong)

/-- 'coachyardlaw07.DequeSteals': WHATEVER THE INPUT: true; the input reads as it did. -/
def dequeStealsSpec : ChangeSpec := { name := "dequeSteals", fn := fun _ => fun
  | [d1, d2, d3] => { results := [.lit (.bool true)], args := [d1, d2, d3] }
  | _ => none }
def dequeStealsRow : OpenClaim := { program := "ytlmenjenkpnacaa", sum := "3e73c07682b0af6e17031964d8c6167d84b3872ef14464ca7af055a717ce8d4a", func := "coachyard/coachyardlaw07.DequeSteals", spec := "dequeSteals", unfollowed := true, recurses := true, apart := false }
def DequeStealsSaid : Prop := dequeStealsRow.holds Try.pinned (OpenSpec.ofChange dequeStealsSpec)

/-- ITS FALSE NEIGHBOUR: 'it returns false'. Refute it at one input. -/
def dequeStealsWrong : ChangeSpec := { name := "dequeSteals", fn := fun _ => fun
  | [d1, d2, d3] => { results := [.lit (.bool false)], args := [d1, d2, d3] }
  | _ => none }
def DequeStealsWrongFalsely : Prop := dequeStealsRow.holds Try.pinned (OpenSpec.ofChange dequeStealsWrong)

/-- 'coachyardlaw07.DequePlays': WHATEVER THE INPUT: true; the input reads as it did. -/
def dequePlaysSpec : ChangeSpec := { name := "dequePlays", fn := fun _ => fun
  | [d1, d2, d3, d4] => { results := [.lit (.bool true)], args := [d1, d2, d3, d4] }
  | _ => none }
def dequePlaysRow : OpenClaim := { program := "ytlmenjenkpnacaa", sum := "3e73c07682b0af6e17031964d8c6167d84b3872ef14464ca7af055a717ce8d4a", func := "coachyard/coachyardlaw07.DequePlays", spec := "dequePlays", unfollowed := true, recurses := true, apart := false }
def DequePlaysSaid : Prop := dequePlaysRow.holds Try.pinned (OpenSpec.ofChange dequePlaysSpec)

/-- ITS FALSE NEIGHBOUR: 'it returns false'. Refute it at one input. -/
def dequePlaysWrong : ChangeSpec := { name := "dequePlays", fn := fun _ => fun
  | [d1, d2, d3, d4] => { results := [.lit (.bool false)], args := [d1, d2, d3, d4] }
  | _ => none }
def DequePlaysWrongFalsely : Prop := dequePlaysRow.holds Try.pinned (OpenSpec.ofChange dequePlaysWrong)

/-- 'coachyardlaw08.RingAlone': WHATEVER THE INPUT: true; the input reads as it did. -/
def ringAloneSpec : ChangeSpec := { name := "ringAlone", fn := fun _ => fun
  | [d1, d2, d3] => { results := [.lit (.bool true)], args := [d1, d2, d3] }
  | _ => none }
def ringAloneRow : OpenClaim := { program := "ytlmenjenkpnacaa", sum := "3e73c07682b0af6e17031964d8c6167d84b3872ef14464ca7af055a717ce8d4a", func := "coachyard/coachyardlaw08.RingAlone", spec := "ringAlone", unfollowed := true, recurses := true, apart := false }
def RingAloneSaid : Prop := ringAloneRow.holds Try.pinned (OpenSpec.ofChange ringAloneSpec)

/-- ITS FALSE NEIGHBOUR: 'it returns false'. Refute it at one input. -/
def ringAloneWrong : ChangeSpec := { name := "ringAlone", fn := fun _ => fun
  | [d1, d2, d3] => { results := [.lit (.bool false)], args := [d1, d2, d3] }
  | _ => none }
def RingAloneWrongFalsely : Prop := ringAloneRow.holds Try.pinned (OpenSpec.ofChange ringAloneWrong)

/- THE SECOND FORM. 'bulk': how many values and letters a reading holds, each counted each time it is reached (what is shared counts as often as it is met; a slice's spare places count too). A statement '..UptoSaid' is the law's where the arguments, and the package variables that the reading takes, are together of bulk at most 1048576: NARROWER than '..Said'. Prove '..Said' where nothing that the law and all that it calls make is longer than what came in: it says more and counts as full. Else prove '..UptoSaid'. A law counts once. -/
mutual
def uptoBulk {H : Type} : DataW H → Nat
  | .lit (.string bytes) => bytes.length + 1
  | .lit _ => 1
  | .nil => 1
  | .ptr d => uptoBulk d + 1
  | .slice elems spare => uptoBulkAll elems + uptoBulkAll spare + 1
  | .agg parts => uptoBulkAll parts + 1
  | .iface _ d => uptoBulk d + 1
  | .map entries => uptoBulkEntries entries + 1
  | .held _ => 1
def uptoBulkAll {H : Type} : List (DataW H) → Nat
  | [] => 0
  | d :: r => uptoBulk d + uptoBulkAll r
def uptoBulkEntries {H : Type} : List (Lit × DataW H) → Nat
  | [] => 0
  | x :: r => uptoBulkEntry x + uptoBulkEntries r
def uptoBulkEntry {H : Type} : Lit × DataW H → Nat
  | (.string bytes, d) => bytes.length + uptoBulk d + 1
  | (_, d) => uptoBulk d + 1
 end
def uptoSmall : (H : Type) → List (DataW H) → Bool := fun _ ds => decide (uptoBulkAll ds ≤ 1048576)
def OpenSpec.upto (s : _root_.Go.ChangeSpec) : _root_.Go.OpenSpec := { _root_.Go.OpenSpec.ofChange s with cond := some uptoSmall }

/-- 'coachyardlaw06.ArenaInits', WHERE WHAT IT READS IS OF BULK AT MOST 1048576: true; the input reads as it did. -/
def arenaInitsUptoRow : OpenClaim := { program := "ytlmenjenkpnacaa", sum := "3e73c07682b0af6e17031964d8c6167d84b3872ef14464ca7af055a717ce8d4a", func := "coachyard/coachyardlaw06.ArenaInits", spec := "arenaInits", unfollowed := true, recurses := true, apart := false, narrowed := true }
def ArenaInitsUptoSaid : Prop := arenaInitsUptoRow.holds Try.pinned (OpenSpec.upto arenaInitsSpec)

/-- 'coachyardlaw06.ArenaOnce', WHERE WHAT IT READS IS OF BULK AT MOST 1048576: true; the input reads as it did. -/
def arenaOnceUptoRow : OpenClaim := { program := "ytlmenjenkpnacaa", sum := "3e73c07682b0af6e17031964d8c6167d84b3872ef14464ca7af055a717ce8d4a", func := "coachyard/coachyardlaw06.ArenaOnce", spec := "arenaOnce", unfollowed := true, recurses := true, apart := false, narrowed := true }
def ArenaOnceUptoSaid : Prop := arenaOnceUptoRow.holds Try.pinned (OpenSpec.upto arenaOnceSpec)

/-- 'coachyardlaw06.ArenaSteps', WHERE WHAT IT READS IS OF BULK AT MOST 1048576: true; the input reads as it did. -/
def arenaStepsUptoRow : OpenClaim := { program := "ytlmenjenkpnacaa", sum := "3e73c07682b0af6e17031964d8c6167d84b3872ef14464ca7af055a717ce8d4a", func := "coachyard/coachyardlaw06.ArenaSteps", spec := "arenaSteps", unfollowed := true, recurses := true, apart := false, narrowed := true }
def ArenaStepsUptoSaid : Prop := arenaStepsUptoRow.holds Try.pinned (OpenSpec.upto arenaStepsSpec)

/-- 'coachyardlaw32.LaneAll', WHERE WHAT IT READS IS OF BULK AT MOST 1048576: true; the input reads as it did. -/
def laneAllUptoRow : OpenClaim := { program := "ytlmenjenkpnacaa", sum := "3e73c07682b0af6e17031964d8c6167d84b3872ef14464ca7af055a717ce8d4a", func := "coachyard/coachyardlaw32.LaneAll", spec := "laneAll", unfollowed := true, recurses := true, apart := false, narrowed := true }
def LaneAllUptoSaid : Prop := laneAllUptoRow.holds Try.pinned (OpenSpec.upto laneAllSpec)

/-- 'coachyardlaw32.LaneAlone', WHERE WHAT IT READS IS OF BULK AT MOST 1048576: true; the input reads as it did. -/
def laneAloneUptoRow : OpenClaim := { program := "ytlmenjenkpnacaa", sum := "3e73c07682b0af6e17031964d8c6167d84b3872ef14464ca7af055a717ce8d4a", func := "coachyard/coachyardlaw32.LaneAlone", spec := "laneAlone", unfollowed := true, recurses := true, apart := false, narrowed := true }
def LaneAloneUptoSaid : Prop := laneAloneUptoRow.holds Try.pinned (OpenSpec.upto laneAloneSpec)

/-- 'coachyardlaw32.LaneSteps', WHERE WHAT IT READS IS OF BULK AT MOST 1048576: true; the input reads as it did. -/
def laneStepsUptoRow : OpenClaim := { program := "ytlmenjenkpnacaa", sum := "3e73c07682b0af6e17031964d8c6167d84b3872ef14464ca7af055a717ce8d4a", func := "coachyard/coachyardlaw32.LaneSteps", spec := "laneSteps", unfollowed := true, recurses := true, apart := false, narrowed := true }
def LaneStepsUptoSaid : Prop := laneStepsUptoRow.holds Try.pinned (OpenSpec.upto laneStepsSpec)

/-- 'coachyardlaw32.LanePlays', WHERE WHAT IT READS IS OF BULK AT MOST 1048576: true; the input reads as it did. -/
def lanePlaysUptoRow : OpenClaim := { program := "ytlmenjenkpnacaa", sum := "3e73c07682b0af6e17031964d8c6167d84b3872ef14464ca7af055a717ce8d4a", func := "coachyard/coachyardlaw32.LanePlays", spec := "lanePlays", unfollowed := true, recurses := true, apart := false, narrowed := true }
def LanePlaysUptoSaid : Prop := lanePlaysUptoRow.holds Try.pinned (OpenSpec.upto lanePlaysSpec)

/-- 'coachyardlaw07.DequeSteps', WHERE WHAT IT READS IS OF BULK AT MOST 1048576: true; the input reads as it did. -/
def dequeStepsUptoRow : OpenClaim := { program := "ytlmenjenkpnacaa", sum := "3e73c07682b0af6e17031964d8c6167d84b3872ef14464ca7af055a717ce8d4a", func := "coachyard/coachyardlaw07.DequeSteps", spec := "dequeSteps", unfollowed := true, recurses := true, apart := false, narrowed := true }
def DequeStepsUptoSaid : Prop := dequeStepsUptoRow.holds Try.pinned (OpenSpec.upto dequeStepsSpec)

/-- 'coachyardlaw07.DequeSteals', WHERE WHAT IT READS IS OF BULK AT MOST 1048576: true; the input reads as it did. -/
def dequeStealsUptoRow : OpenClaim := { program := "ytlmenjenkpnacaa", sum := "3e73c07682b0af6e17031964d8c6167d84b3872ef14464ca7af055a717ce8d4a", func := "coachyard/coachyardlaw07.DequeSteals", spec := "dequeSteals", unfollowed := true, recurses := true, apart := false, narrowed := true }
def DequeStealsUptoSaid : Prop := dequeStealsUptoRow.holds Try.pinned (OpenSpec.upto dequeStealsSpec)

/-- 'coachyardlaw07.DequePlays', WHERE WHAT IT READS IS OF BULK AT MOST 1048576: true; the input reads as it did. -/
def dequePlaysUptoRow : OpenClaim := { program := "ytlmenjenkpnacaa", sum := "3e73c07682b0af6e17031964d8c6167d84b3872ef14464ca7af055a717ce8d4a", func := "coachyard/coachyardlaw07.DequePlays", spec := "dequePlays", unfollowed := true, recurses := true, apart := false, narrowed := true }
def DequePlaysUptoSaid : Prop := dequePlaysUptoRow.holds Try.pinned (OpenSpec.upto dequePlaysSpec)

/-- 'coachyardlaw08.RingAlone', WHERE WHAT IT READS IS OF BULK AT MOST 1048576: true; the input reads as it did. -/
def ringAloneUptoRow : OpenClaim := { program := "ytlmenjenkpnacaa", sum := "3e73c07682b0af6e17031964d8c6167d84b3872ef14464ca7af055a717ce8d4a", func := "coachyard/coachyardlaw08.RingAlone", spec := "ringAlone", unfollowed := true, recurses := true, apart := false, narrowed := true }
def RingAloneUptoSaid : Prop := ringAloneUptoRow.holds Try.pinned (OpenSpec.upto ringAloneSpec)

end Rows
end Go.Proofs.Ytlmenjenkpnacaa
