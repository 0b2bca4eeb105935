/-
  No cell of these rows narrows 'for every input' (looked for: loops, veiled, ifaces, maps, wideKeys, modest, calm, conditions, laid).
  DERIVED. THE GIVEN ROWS OF THIS SEAT. 6 by the template 'for every input the law returns true; each argument reads behind the call as it read before'; 0 by the template 'total and deterministic' (their statements: YtfnchpjiebojiaaTotals.lean).
  GIVEN WITH THE SEED: the statements are not yours to turn. If you find one false, say at which input.
  Laid BY PROGRAM, IN A SANDBOX (cutbox-rows.mjs): the forced cells as the released guide's own fill.sh prints them over the translation 65029aa0819673da… (all of the seat's roots in one cut). By AI agents, Wed Nov 11 2026. No macro, syntax, notation, axiom, sorry.
-/
import Derived.Test.YtfnchpjiebojiaaChecked
import GoSem.Claim
import GoSem.ClaimJoined
import GoSem.ClaimMapViews
import Derived.JoinedTies
import Derived.KernelRfl
namespace Go.Proofs.Ytfnchpjiebojiaa
/- THE CELL 'sum', in the pinned program and in every row, IS THE sha256 OF THE DUMP (.gsa) THAT YtfnchpjiebojiaaProg.lean LOADS. Nothing in Lean hashes anything: it is a label: what it is worth is what the hold of that sum in a sandbox is worth. -/
noncomputable def Try.pinned : Pinned := { name := "ytfnchpjiebojiaa", sum := "65029aa0819673da4f419371fcedabc383abea8fc6da4562b7068b5674e4b152", checked := Try.checked }
namespace Rows
def none {H : Type} : Left H := { results := [], args := [] }

/-- 'rostrumlaw16.ModelSafe': WHATEVER THE INPUT: true; the input reads as it did. -/
def modelSafeSpec : ChangeSpec := { name := "modelSafe", fn := fun _ => fun
  | [d1, d2] => { results := [.lit (.bool true)], args := [d1, d2] }
  | _ => none }
def modelSafeRow : OpenClaim := { program := "ytfnchpjiebojiaa", sum := "65029aa0819673da4f419371fcedabc383abea8fc6da4562b7068b5674e4b152", func := "rostrum/rostrumlaw16.ModelSafe", spec := "modelSafe", unfollowed := true, recurses := true, plainKeys := false, apart := false }
def ModelSafeSaid : Prop := modelSafeRow.holds Try.pinned (OpenSpec.ofChange modelSafeSpec)

/-- ITS FALSE NEIGHBOUR: 'it returns false'. Refute it at one input. -/
def modelSafeWrong : ChangeSpec := { name := "modelSafe", fn := fun _ => fun
  | [d1, d2] => { results := [.lit (.bool false)], args := [d1, d2] }
  | _ => none }
def ModelSafeWrongFalsely : Prop := modelSafeRow.holds Try.pinned (OpenSpec.ofChange modelSafeWrong)

/-- 'rostrumlaw16.ModelOrder': WHATEVER THE INPUT: true; the input reads as it did. -/
def modelOrderSpec : ChangeSpec := { name := "modelOrder", fn := fun _ => fun
  | [d1, d2] => { results := [.lit (.bool true)], args := [d1, d2] }
  | _ => none }
def modelOrderRow : OpenClaim := { program := "ytfnchpjiebojiaa", sum := "65029aa0819673da4f419371fcedabc383abea8fc6da4562b7068b5674e4b152", func := "rostrum/rostrumlaw16.ModelOrder", spec := "modelOrder", unfollowed := true, recurses := true, plainKeys := false, apart := false }
def ModelOrderSaid : Prop := modelOrderRow.holds Try.pinned (OpenSpec.ofChange modelOrderSpec)

/-- ITS FALSE NEIGHBOUR: 'it returns false'. Refute it at one input. -/
def modelOrderWrong : ChangeSpec := { name := "modelOrder", fn := fun _ => fun
  | [d1, d2] => { results := [.lit (.bool false)], args := [d1, d2] }
  | _ => none }
def ModelOrderWrongFalsely : Prop := modelOrderRow.holds Try.pinned (OpenSpec.ofChange modelOrderWrong)

/-- 'rostrumlaw16.ModelRepeats': WHATEVER THE INPUT: true; the input reads as it did. -/
def modelRepeatsSpec : ChangeSpec := { name := "modelRepeats", fn := fun _ => fun
  | [d1, d2, d3] => { results := [.lit (.bool true)], args := [d1, d2, d3] }
  | _ => none }
def modelRepeatsRow : OpenClaim := { program := "ytfnchpjiebojiaa", sum := "65029aa0819673da4f419371fcedabc383abea8fc6da4562b7068b5674e4b152", func := "rostrum/rostrumlaw16.ModelRepeats", spec := "modelRepeats", unfollowed := true, recurses := true, plainKeys := false, apart := false }
def ModelRepeatsSaid : Prop := modelRepeatsRow.holds Try.pinned (OpenSpec.ofChange modelRepeatsSpec)

/-- ITS FALSE NEIGHBOUR: 'it returns false'. Refute it at one input. -/
def modelRepeatsWrong : ChangeSpec := { name := "modelRepeats", fn := fun _ => fun
  | [d1, d2, d3] => { results := [.lit (.bool false)], args := [d1, d2, d3] }
  | _ => none }
def ModelRepeatsWrongFalsely : Prop := modelRepeatsRow.holds Try.pinned (OpenSpec.ofChange modelRepeatsWrong)

/-- 'rostrumlaw16.ModelHappens': WHATEVER THE INPUT: true; the input reads as it did. -/
def modelHappensSpec : ChangeSpec := { name := "modelHappens", fn := fun _ => fun
  | [d1, d2, d3] => { results := [.lit (.bool true)], args := [d1, d2, d3] }
  | _ => none }
def modelHappensRow : OpenClaim := { program := "ytfnchpjiebojiaa", sum := "65029aa0819673da4f419371fcedabc383abea8fc6da4562b7068b5674e4b152", func := "rostrum/rostrumlaw16.ModelHappens", spec := "modelHappens", unfollowed := true, recurses := true, plainKeys := false, apart := false }
def ModelHappensSaid : Prop := modelHappensRow.holds Try.pinned (OpenSpec.ofChange modelHappensSpec)

/-- ITS FALSE NEIGHBOUR: 'it returns false'. Refute it at one input. -/
def modelHappensWrong : ChangeSpec := { name := "modelHappens", fn := fun _ => fun
  | [d1, d2, d3] => { results := [.lit (.bool false)], args := [d1, d2, d3] }
  | _ => none }
def ModelHappensWrongFalsely : Prop := modelHappensRow.holds Try.pinned (OpenSpec.ofChange modelHappensWrong)

/-- 'rostrumlaw16.ModelNone': WHATEVER THE INPUT: true; the input reads as it did. -/
def modelNoneSpec : ChangeSpec := { name := "modelNone", fn := fun _ => fun
  | [d] => { results := [.lit (.bool true)], args := [d] }
  | _ => none }
def modelNoneRow : OpenClaim := { program := "ytfnchpjiebojiaa", sum := "65029aa0819673da4f419371fcedabc383abea8fc6da4562b7068b5674e4b152", func := "rostrum/rostrumlaw16.ModelNone", spec := "modelNone", unfollowed := true, recurses := true, plainKeys := false, apart := false }
def ModelNoneSaid : Prop := modelNoneRow.holds Try.pinned (OpenSpec.ofChange modelNoneSpec)

/-- ITS FALSE NEIGHBOUR: 'it returns false'. Refute it at one input. -/
def modelNoneWrong : ChangeSpec := { name := "modelNone", fn := fun _ => fun
  | [d] => { results := [.lit (.bool false)], args := [d] }
  | _ => none }
def ModelNoneWrongFalsely : Prop := modelNoneRow.holds Try.pinned (OpenSpec.ofChange modelNoneWrong)

/-- 'rostrumlaw16.ModelAll': WHATEVER THE INPUT: true; the input reads as it did. -/
def modelAllSpec : ChangeSpec := { name := "modelAll", fn := fun _ => fun
  | [d1, d2] => { results := [.lit (.bool true)], args := [d1, d2] }
  | _ => none }
def modelAllRow : OpenClaim := { program := "ytfnchpjiebojiaa", sum := "65029aa0819673da4f419371fcedabc383abea8fc6da4562b7068b5674e4b152", func := "rostrum/rostrumlaw16.ModelAll", spec := "modelAll", unfollowed := true, recurses := true, plainKeys := false, apart := false }
def ModelAllSaid : Prop := modelAllRow.holds Try.pinned (OpenSpec.ofChange modelAllSpec)

/-- ITS FALSE NEIGHBOUR: 'it returns false'. Refute it at one input. -/
def modelAllWrong : ChangeSpec := { name := "modelAll", fn := fun _ => fun
  | [d1, d2] => { results := [.lit (.bool false)], args := [d1, d2] }
  | _ => none }
def ModelAllWrongFalsely : Prop := modelAllRow.holds Try.pinned (OpenSpec.ofChange modelAllWrong)

/- THE SECOND FORM. 'bulk': how many values and letters a reading holds, each counted each time it is reached (what is shared counts as often as it is met; a slice's spare places count too). A statement '..UptoSaid' is the law's where the arguments, and the package variables that the reading takes, are together of bulk at most 1048576: NARROWER than '..Said'. Prove '..Said' where nothing that the law and all that it calls make is longer than what came in: it says more and counts as full. Else prove '..UptoSaid'. A law counts once. -/
mutual
def uptoBulk {H : Type} : DataW H → Nat
  | .lit (.string bytes) => bytes.length + 1
  | .lit _ => 1
  | .nil => 1
  | .ptr d => uptoBulk d + 1
  | .slice elems spare => uptoBulkAll elems + uptoBulkAll spare + 1
  | .agg parts => uptoBulkAll parts + 1
  | .iface _ d => uptoBulk d + 1
  | .map entries => uptoBulkEntries entries + 1
  | .held _ => 1
def uptoBulkAll {H : Type} : List (DataW H) → Nat
  | [] => 0
  | d :: r => uptoBulk d + uptoBulkAll r
def uptoBulkEntries {H : Type} : List (Lit × DataW H) → Nat
  | [] => 0
  | x :: r => uptoBulkEntry x + uptoBulkEntries r
def uptoBulkEntry {H : Type} : Lit × DataW H → Nat
  | (.string bytes, d) => bytes.length + uptoBulk d + 1
  | (_, d) => uptoBulk d + 1
 end
def uptoSmall : (H : Type) → List (DataW H) → Bool := fun _ ds => decide (uptoBulkAll ds ≤ 1048576)
def OpenSpec.upto (s : _root_.Go.ChangeSpec) : _root_.Go.OpenSpec := { _root_.Go.OpenSpec.ofChange s with cond := some uptoSmall }

/-- 'rostrumlaw16.ModelSafe', WHERE WHAT IT READS IS OF BULK AT MOST 1048576: true; the input reads as it did. -/
def modelSafeUptoRow : OpenClaim := { program := "ytfnchpjiebojiaa", sum := "65029aa0819673da4f419371fcedabc383abea8fc6da4562b7068b5674e4b152", func := "rostrum/rostrumlaw16.ModelSafe", spec := "modelSafe", unfollowed := true, recurses := true, plainKeys := false, apart := false, narrowed := true }
def ModelSafeUptoSaid : Prop := modelSafeUptoRow.holds Try.pinned (OpenSpec.upto modelSafeSpec)

/-- 'rostrumlaw16.ModelOrder', WHERE WHAT IT READS IS OF BULK AT MOST 1048576: true; the input reads as it did. -/
def modelOrderUptoRow : OpenClaim := { program := "ytfnchpjiebojiaa", sum := "65029aa0819673da4f419371fcedabc383abea8fc6da4562b7068b5674e4b152", func := "rostrum/rostrumlaw16.ModelOrder", spec := "modelOrder", unfollowed := true, recurses := true, plainKeys := false, apart := false, narrowed := true }
def ModelOrderUptoSaid : Prop := modelOrderUptoRow.holds Try.pinned (OpenSpec.upto modelOrderSpec)

/-- 'rostrumlaw16.ModelRepeats', WHERE WHAT IT READS IS OF BULK AT MOST 1048576: true; the input reads as it did. -/
def modelRepeatsUptoRow : OpenClaim := { program := "ytfnchpjiebojiaa", sum := "65029aa0819673da4f419371fcedabc383abea8fc6da4562b7068b5674e4b152", func := "rostrum/rostrumlaw16.ModelRepeats", spec := "modelRepeats", unfollowed := true, recurses := true, plainKeys := false, apart := false, narrowed := true }
def ModelRepeatsUptoSaid : Prop := modelRepeatsUptoRow.holds Try.pinned (OpenSpec.upto modelRepeatsSpec)

/-- 'rostrumlaw16.ModelHappens', WHERE WHAT IT READS IS OF BULK AT MOST 1048576: true; the input reads as it did. -/
def modelHappensUptoRow : OpenClaim := { program := "ytfnchpjiebojiaa", sum := "65029aa0819673da4f419371fcedabc383abea8fc6da4562b7068b5674e4b152", func := "rostrum/rostrumlaw16.ModelHappens", spec := "modelHappens", unfollowed := true, recurses := true, plainKeys := false, apart := false, narrowed := true }
def ModelHappensUptoSaid : Prop := modelHappensUptoRow.holds Try.pinned (OpenSpec.upto modelHappensSpec)

/-- 'rostrumlaw16.ModelNone', WHERE WHAT IT READS IS OF BULK AT MOST 1048576: true; the input reads as it did. -/
def modelNoneUptoRow : OpenClaim := { program := "ytfnchpjiebojiaa", sum := "65029aa0819673da4f419371fcedabc383abea8fc6da4562b7068b5674e4b152", func := "rostrum/rostrumlaw16.ModelNone", spec := "modelNone", unfollowed := true, recurses := true, plainKeys := false, apart := false, narrowed := true }
def ModelNoneUptoSaid : Prop := modelNoneUptoRow.holds Try.pinned (OpenSpec.upto modelNoneSpec)

/-- 'rostrumlaw16.ModelAll', WHERE WHAT IT READS IS OF BULK AT MOST 1048576: true; the input reads as it did. -/
def modelAllUptoRow : OpenClaim := { program := "ytfnchpjiebojiaa", sum := "65029aa0819673da4f419371fcedabc383abea8fc6da4562b7068b5674e4b152", func := "rostrum/rostrumlaw16.ModelAll", spec := "modelAll", unfollowed := true, recurses := true, plainKeys := false, apart := false, narrowed := true }
def ModelAllUptoSaid : Prop := modelAllUptoRow.holds Try.pinned (OpenSpec.upto modelAllSpec)

end Rows
end Go.Proofs.Ytfnchpjiebojiaa
