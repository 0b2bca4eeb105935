/-
  No cell of these rows narrows 'for every input' (looked for: loops, veiled, ifaces, maps, wideKeys, modest, calm, conditions, laid).
  DERIVED. THE GIVEN ROWS OF THIS SEAT. 6 by the template 'for every input the law returns true; each argument reads behind the call as it read before'; 0 by the template 'total and deterministic' (their statements: YtokljdkeegdniaaTotals.lean).
  GIVEN WITH THE SEED: the statements are not yours to turn. If you find one false, say at which input.
  Laid BY PROGRAM, IN A SANDBOX (cutbox-rows.mjs): the forced cells as the released guide's own fill.sh prints them over the translation 830165a07d96b1e9… (all of the seat's roots in one cut). By AI agents, Wed Nov 11 2026. No macro, syntax, notation, axiom, sorry.
-/
import Derived.Test.YtokljdkeegdniaaChecked
import GoSem.Claim
import GoSem.ClaimJoined
import GoSem.ClaimMapViews
import Derived.JoinedTies
import Derived.KernelRfl
namespace Go.Proofs.Ytokljdkeegdniaa
/- THE CELL 'sum', in the pinned program and in every row, IS THE sha256 OF THE DUMP (.gsa) THAT YtokljdkeegdniaaProg.lean LOADS. Nothing in Lean hashes anything: it is a label: what it is worth is what the hold of that sum in a sandbox is worth. -/
noncomputable def Try.pinned : Pinned := { name := "ytokljdkeegdniaa", sum := "830165a07d96b1e9bf83d1e069ab26fa748b247a7fd3ef510a6762377744d9c2", checked := Try.checked }
namespace Rows
def none {H : Type} : Left H := { results := [], args := [] }

/-- 'rostrumlaw11.SequenceFollows': WHATEVER THE INPUT: true; the input reads as it did. -/
def sequenceFollowsSpec : ChangeSpec := { name := "sequenceFollows", fn := fun _ => fun
  | [d1, d2] => { results := [.lit (.bool true)], args := [d1, d2] }
  | _ => none }
def sequenceFollowsRow : OpenClaim := { program := "ytokljdkeegdniaa", sum := "830165a07d96b1e9bf83d1e069ab26fa748b247a7fd3ef510a6762377744d9c2", func := "rostrum/rostrumlaw11.SequenceFollows", spec := "sequenceFollows", unfollowed := true, recurses := true, plainKeys := false, apart := false }
def SequenceFollowsSaid : Prop := sequenceFollowsRow.holds Try.pinned (OpenSpec.ofChange sequenceFollowsSpec)

/-- ITS FALSE NEIGHBOUR: 'it returns false'. Refute it at one input. -/
def sequenceFollowsWrong : ChangeSpec := { name := "sequenceFollows", fn := fun _ => fun
  | [d1, d2] => { results := [.lit (.bool false)], args := [d1, d2] }
  | _ => none }
def SequenceFollowsWrongFalsely : Prop := sequenceFollowsRow.holds Try.pinned (OpenSpec.ofChange sequenceFollowsWrong)

/-- 'rostrumlaw11.SequenceAhead': WHATEVER THE INPUT: true; the input reads as it did. -/
def sequenceAheadSpec : ChangeSpec := { name := "sequenceAhead", fn := fun _ => fun
  | [d] => { results := [.lit (.bool true)], args := [d] }
  | _ => none }
def sequenceAheadRow : OpenClaim := { program := "ytokljdkeegdniaa", sum := "830165a07d96b1e9bf83d1e069ab26fa748b247a7fd3ef510a6762377744d9c2", func := "rostrum/rostrumlaw11.SequenceAhead", spec := "sequenceAhead", unfollowed := true, recurses := true, plainKeys := false, apart := false }
def SequenceAheadSaid : Prop := sequenceAheadRow.holds Try.pinned (OpenSpec.ofChange sequenceAheadSpec)

/-- ITS FALSE NEIGHBOUR: 'it returns false'. Refute it at one input. -/
def sequenceAheadWrong : ChangeSpec := { name := "sequenceAhead", fn := fun _ => fun
  | [d] => { results := [.lit (.bool false)], args := [d] }
  | _ => none }
def SequenceAheadWrongFalsely : Prop := sequenceAheadRow.holds Try.pinned (OpenSpec.ofChange sequenceAheadWrong)

/-- 'rostrumlaw11.SequenceOrder': WHATEVER THE INPUT: true; the input reads as it did. -/
def sequenceOrderSpec : ChangeSpec := { name := "sequenceOrder", fn := fun _ => fun
  | [d1, d2, d3] => { results := [.lit (.bool true)], args := [d1, d2, d3] }
  | _ => none }
def sequenceOrderRow : OpenClaim := { program := "ytokljdkeegdniaa", sum := "830165a07d96b1e9bf83d1e069ab26fa748b247a7fd3ef510a6762377744d9c2", func := "rostrum/rostrumlaw11.SequenceOrder", spec := "sequenceOrder", unfollowed := true, recurses := true, plainKeys := false, apart := false }
def SequenceOrderSaid : Prop := sequenceOrderRow.holds Try.pinned (OpenSpec.ofChange sequenceOrderSpec)

/-- ITS FALSE NEIGHBOUR: 'it returns false'. Refute it at one input. -/
def sequenceOrderWrong : ChangeSpec := { name := "sequenceOrder", fn := fun _ => fun
  | [d1, d2, d3] => { results := [.lit (.bool false)], args := [d1, d2, d3] }
  | _ => none }
def SequenceOrderWrongFalsely : Prop := sequenceOrderRow.holds Try.pinned (OpenSpec.ofChange sequenceOrderWrong)

/-- 'rostrumlaw11.SequenceAll': WHATEVER THE INPUT: true; the input reads as it did. -/
def sequenceAllSpec : ChangeSpec := { name := "sequenceAll", fn := fun _ => fun
  | [d1, d2, d3] => { results := [.lit (.bool true)], args := [d1, d2, d3] }
  | _ => none }
def sequenceAllRow : OpenClaim := { program := "ytokljdkeegdniaa", sum := "830165a07d96b1e9bf83d1e069ab26fa748b247a7fd3ef510a6762377744d9c2", func := "rostrum/rostrumlaw11.SequenceAll", spec := "sequenceAll", unfollowed := true, recurses := true, plainKeys := false, apart := false }
def SequenceAllSaid : Prop := sequenceAllRow.holds Try.pinned (OpenSpec.ofChange sequenceAllSpec)

/-- ITS FALSE NEIGHBOUR: 'it returns false'. Refute it at one input. -/
def sequenceAllWrong : ChangeSpec := { name := "sequenceAll", fn := fun _ => fun
  | [d1, d2, d3] => { results := [.lit (.bool false)], args := [d1, d2, d3] }
  | _ => none }
def SequenceAllWrongFalsely : Prop := sequenceAllRow.holds Try.pinned (OpenSpec.ofChange sequenceAllWrong)

/-- 'rostrumlaw11.SequenceTwice': WHATEVER THE INPUT: true; the input reads as it did. -/
def sequenceTwiceSpec : ChangeSpec := { name := "sequenceTwice", fn := fun _ => fun
  | [d1, d2, d3] => { results := [.lit (.bool true)], args := [d1, d2, d3] }
  | _ => none }
def sequenceTwiceRow : OpenClaim := { program := "ytokljdkeegdniaa", sum := "830165a07d96b1e9bf83d1e069ab26fa748b247a7fd3ef510a6762377744d9c2", func := "rostrum/rostrumlaw11.SequenceTwice", spec := "sequenceTwice", unfollowed := true, recurses := true, plainKeys := false, apart := false }
def SequenceTwiceSaid : Prop := sequenceTwiceRow.holds Try.pinned (OpenSpec.ofChange sequenceTwiceSpec)

/-- ITS FALSE NEIGHBOUR: 'it returns false'. Refute it at one input. -/
def sequenceTwiceWrong : ChangeSpec := { name := "sequenceTwice", fn := fun _ => fun
  | [d1, d2, d3] => { results := [.lit (.bool false)], args := [d1, d2, d3] }
  | _ => none }
def SequenceTwiceWrongFalsely : Prop := sequenceTwiceRow.holds Try.pinned (OpenSpec.ofChange sequenceTwiceWrong)

/-- 'rostrumlaw11.SequenceNone': WHATEVER THE INPUT: true; the input reads as it did. -/
def sequenceNoneSpec : ChangeSpec := { name := "sequenceNone", fn := fun _ => fun
  | [d] => { results := [.lit (.bool true)], args := [d] }
  | _ => none }
def sequenceNoneRow : OpenClaim := { program := "ytokljdkeegdniaa", sum := "830165a07d96b1e9bf83d1e069ab26fa748b247a7fd3ef510a6762377744d9c2", func := "rostrum/rostrumlaw11.SequenceNone", spec := "sequenceNone", unfollowed := true, recurses := true, plainKeys := false, apart := false }
def SequenceNoneSaid : Prop := sequenceNoneRow.holds Try.pinned (OpenSpec.ofChange sequenceNoneSpec)

/-- ITS FALSE NEIGHBOUR: 'it returns false'. Refute it at one input. -/
def sequenceNoneWrong : ChangeSpec := { name := "sequenceNone", fn := fun _ => fun
  | [d] => { results := [.lit (.bool false)], args := [d] }
  | _ => none }
def SequenceNoneWrongFalsely : Prop := sequenceNoneRow.holds Try.pinned (OpenSpec.ofChange sequenceNoneWrong)

/- THE SECOND FORM. 'bulk': how many values and letters a reading holds, each counted each time it is reached (what is shared counts as often as it is met; a slice's spare places count too). A statement '..UptoSaid' is the law's where the arguments, and the package variables that the reading takes, are together of bulk at most 1048576: NARROWER than '..Said'. Prove '..Said' where nothing that the law and all that it calls make is longer than what came in: it says more and counts as full. Else prove '..UptoSaid'. A law counts once. -/
mutual
def uptoBulk {H : Type} : DataW H → Nat
  | .lit (.string bytes) => bytes.length + 1
  | .lit _ => 1
  | .nil => 1
  | .ptr d => uptoBulk d + 1
  | .slice elems spare => uptoBulkAll elems + uptoBulkAll spare + 1
  | .agg parts => uptoBulkAll parts + 1
  | .iface _ d => uptoBulk d + 1
  | .map entries => uptoBulkEntries entries + 1
  | .held _ => 1
def uptoBulkAll {H : Type} : List (DataW H) → Nat
  | [] => 0
  | d :: r => uptoBulk d + uptoBulkAll r
def uptoBulkEntries {H : Type} : List (Lit × DataW H) → Nat
  | [] => 0
  | x :: r => uptoBulkEntry x + uptoBulkEntries r
def uptoBulkEntry {H : Type} : Lit × DataW H → Nat
  | (.string bytes, d) => bytes.length + uptoBulk d + 1
  | (_, d) => uptoBulk d + 1
 end
def uptoSmall : (H : Type) → List (DataW H) → Bool := fun _ ds => decide (uptoBulkAll ds ≤ 1048576)
def OpenSpec.upto (s : _root_.Go.ChangeSpec) : _root_.Go.OpenSpec := { _root_.Go.OpenSpec.ofChange s with cond := some uptoSmall }

/-- 'rostrumlaw11.SequenceFollows', WHERE WHAT IT READS IS OF BULK AT MOST 1048576: true; the input reads as it did. -/
def sequenceFollowsUptoRow : OpenClaim := { program := "ytokljdkeegdniaa", sum := "830165a07d96b1e9bf83d1e069ab26fa748b247a7fd3ef510a6762377744d9c2", func := "rostrum/rostrumlaw11.SequenceFollows", spec := "sequenceFollows", unfollowed := true, recurses := true, plainKeys := false, apart := false, narrowed := true }
def SequenceFollowsUptoSaid : Prop := sequenceFollowsUptoRow.holds Try.pinned (OpenSpec.upto sequenceFollowsSpec)

/-- 'rostrumlaw11.SequenceAhead', WHERE WHAT IT READS IS OF BULK AT MOST 1048576: true; the input reads as it did. -/
def sequenceAheadUptoRow : OpenClaim := { program := "ytokljdkeegdniaa", sum := "830165a07d96b1e9bf83d1e069ab26fa748b247a7fd3ef510a6762377744d9c2", func := "rostrum/rostrumlaw11.SequenceAhead", spec := "sequenceAhead", unfollowed := true, recurses := true, plainKeys := false, apart := false, narrowed := true }
def SequenceAheadUptoSaid : Prop := sequenceAheadUptoRow.holds Try.pinned (OpenSpec.upto sequenceAheadSpec)

/-- 'rostrumlaw11.SequenceOrder', WHERE WHAT IT READS IS OF BULK AT MOST 1048576: true; the input reads as it did. -/
def sequenceOrderUptoRow : OpenClaim := { program := "ytokljdkeegdniaa", sum := "830165a07d96b1e9bf83d1e069ab26fa748b247a7fd3ef510a6762377744d9c2", func := "rostrum/rostrumlaw11.SequenceOrder", spec := "sequenceOrder", unfollowed := true, recurses := true, plainKeys := false, apart := false, narrowed := true }
def SequenceOrderUptoSaid : Prop := sequenceOrderUptoRow.holds Try.pinned (OpenSpec.upto sequenceOrderSpec)

/-- 'rostrumlaw11.SequenceAll', WHERE WHAT IT READS IS OF BULK AT MOST 1048576: true; the input reads as it did. -/
def sequenceAllUptoRow : OpenClaim := { program := "ytokljdkeegdniaa", sum := "830165a07d96b1e9bf83d1e069ab26fa748b247a7fd3ef510a6762377744d9c2", func := "rostrum/rostrumlaw11.SequenceAll", spec := "sequenceAll", unfollowed := true, recurses := true, plainKeys := false, apart := false, narrowed := true }
def SequenceAllUptoSaid : Prop := sequenceAllUptoRow.holds Try.pinned (OpenSpec.upto sequenceAllSpec)

/-- 'rostrumlaw11.SequenceTwice', WHERE WHAT IT READS IS OF BULK AT MOST 1048576: true; the input reads as it did. -/
def sequenceTwiceUptoRow : OpenClaim := { program := "ytokljdkeegdniaa", sum := "830165a07d96b1e9bf83d1e069ab26fa748b247a7fd3ef510a6762377744d9c2", func := "rostrum/rostrumlaw11.SequenceTwice", spec := "sequenceTwice", unfollowed := true, recurses := true, plainKeys := false, apart := false, narrowed := true }
def SequenceTwiceUptoSaid : Prop := sequenceTwiceUptoRow.holds Try.pinned (OpenSpec.upto sequenceTwiceSpec)

/-- 'rostrumlaw11.SequenceNone', WHERE WHAT IT READS IS OF BULK AT MOST 1048576: true; the input reads as it did. -/
def sequenceNoneUptoRow : OpenClaim := { program := "ytokljdkeegdniaa", sum := "830165a07d96b1e9bf83d1e069ab26fa748b247a7fd3ef510a6762377744d9c2", func := "rostrum/rostrumlaw11.SequenceNone", spec := "sequenceNone", unfollowed := true, recurses := true, plainKeys := false, apart := false, narrowed := true }
def SequenceNoneUptoSaid : Prop := sequenceNoneUptoRow.holds Try.pinned (OpenSpec.upto sequenceNoneSpec)

end Rows
end Go.Proofs.Ytokljdkeegdniaa
