/-
  No cell of these rows narrows 'for every input' (looked for: loops, veiled, ifaces, maps, wideKeys, modest, calm, conditions, laid).
  DERIVED. THE GIVEN ROWS OF THIS SEAT. 7 by the template 'for every input the law returns true; each argument reads behind the call as it read before'; 0 by the template 'total and deterministic' (their statements: YtbjondnombnpbaaTotals.lean).
  GIVEN WITH THE SEED: the statements are not yours to turn. If you find one false, say at which input.
  Laid BY PROGRAM, IN A SANDBOX (cutbox-rows.mjs): the forced cells as the released guide's own fill.sh prints them over the translation 560f5e0ef27ec6dc… (all of the seat's roots in one cut). By AI agents, Wed Nov 11 2026. No macro, syntax, notation, axiom, sorry.
-/
import Derived.Test.YtbjondnombnpbaaChecked
import GoSem.Claim
import GoSem.ClaimJoined
import GoSem.ClaimMapViews
import Derived.JoinedTies
import Derived.KernelRfl
namespace Go.Proofs.Ytbjondnombnpbaa
/- THE CELL 'sum', in the pinned program and in every row, IS THE sha256 OF THE DUMP (.gsa) THAT YtbjondnombnpbaaProg.lean LOADS. Nothing in Lean hashes anything: it is a label: what it is worth is what the hold of that sum in a sandbox is worth. -/
noncomputable def Try.pinned : Pinned := { name := "ytbjondnombnpbaa", sum := "560f5e0ef27ec6dcc98bf945c6db3424258e36bed898fb707300083949a37f07", checked := Try.checked }
namespace Rows
def none {H : Type} : Left H := { results := [], args := [] }

/-- 'rostrumlaw10.IdsNext': WHATEVER THE INPUT: true; the input reads as it did. -/
def idsNextSpec : ChangeSpec := { name := "idsNext", fn := fun _ => fun
  | [d1, d2] => { results := [.lit (.bool true)], args := [d1, d2] }
  | _ => none }
def idsNextRow : OpenClaim := { program := "ytbjondnombnpbaa", sum := "560f5e0ef27ec6dcc98bf945c6db3424258e36bed898fb707300083949a37f07", func := "rostrum/rostrumlaw10.IdsNext", spec := "idsNext", unfollowed := true, recurses := true, plainKeys := false, apart := false }
def IdsNextSaid : Prop := idsNextRow.holds Try.pinned (OpenSpec.ofChange idsNextSpec)

/-- ITS FALSE NEIGHBOUR: 'it returns false'. Refute it at one input. -/
def idsNextWrong : ChangeSpec := { name := "idsNext", fn := fun _ => fun
  | [d1, d2] => { results := [.lit (.bool false)], args := [d1, d2] }
  | _ => none }
def IdsNextWrongFalsely : Prop := idsNextRow.holds Try.pinned (OpenSpec.ofChange idsNextWrong)

/-- 'rostrumlaw10.IdsPacks': WHATEVER THE INPUT: true; the input reads as it did. -/
def idsPacksSpec : ChangeSpec := { name := "idsPacks", fn := fun _ => fun
  | [d] => { results := [.lit (.bool true)], args := [d] }
  | _ => none }
def idsPacksRow : OpenClaim := { program := "ytbjondnombnpbaa", sum := "560f5e0ef27ec6dcc98bf945c6db3424258e36bed898fb707300083949a37f07", func := "rostrum/rostrumlaw10.IdsPacks", spec := "idsPacks", unfollowed := true, recurses := true, plainKeys := false, apart := false }
def IdsPacksSaid : Prop := idsPacksRow.holds Try.pinned (OpenSpec.ofChange idsPacksSpec)

/-- ITS FALSE NEIGHBOUR: 'it returns false'. Refute it at one input. -/
def idsPacksWrong : ChangeSpec := { name := "idsPacks", fn := fun _ => fun
  | [d] => { results := [.lit (.bool false)], args := [d] }
  | _ => none }
def IdsPacksWrongFalsely : Prop := idsPacksRow.holds Try.pinned (OpenSpec.ofChange idsPacksWrong)

/-- 'rostrumlaw10.IdsUnpacks': WHATEVER THE INPUT: true; the input reads as it did. -/
def idsUnpacksSpec : ChangeSpec := { name := "idsUnpacks", fn := fun _ => fun
  | [d] => { results := [.lit (.bool true)], args := [d] }
  | _ => none }
def idsUnpacksRow : OpenClaim := { program := "ytbjondnombnpbaa", sum := "560f5e0ef27ec6dcc98bf945c6db3424258e36bed898fb707300083949a37f07", func := "rostrum/rostrumlaw10.IdsUnpacks", spec := "idsUnpacks", unfollowed := true, recurses := true, plainKeys := false, apart := false }
def IdsUnpacksSaid : Prop := idsUnpacksRow.holds Try.pinned (OpenSpec.ofChange idsUnpacksSpec)

/-- ITS FALSE NEIGHBOUR: 'it returns false'. Refute it at one input. -/
def idsUnpacksWrong : ChangeSpec := { name := "idsUnpacks", fn := fun _ => fun
  | [d] => { results := [.lit (.bool false)], args := [d] }
  | _ => none }
def IdsUnpacksWrongFalsely : Prop := idsUnpacksRow.holds Try.pinned (OpenSpec.ofChange idsUnpacksWrong)

/-- 'rostrumlaw10.IdsBack': WHATEVER THE INPUT: true; the input reads as it did. -/
def idsBackSpec : ChangeSpec := { name := "idsBack", fn := fun _ => fun
  | [d1, d2] => { results := [.lit (.bool true)], args := [d1, d2] }
  | _ => none }
def idsBackRow : OpenClaim := { program := "ytbjondnombnpbaa", sum := "560f5e0ef27ec6dcc98bf945c6db3424258e36bed898fb707300083949a37f07", func := "rostrum/rostrumlaw10.IdsBack", spec := "idsBack", unfollowed := true, recurses := true, plainKeys := false, apart := false }
def IdsBackSaid : Prop := idsBackRow.holds Try.pinned (OpenSpec.ofChange idsBackSpec)

/-- ITS FALSE NEIGHBOUR: 'it returns false'. Refute it at one input. -/
def idsBackWrong : ChangeSpec := { name := "idsBack", fn := fun _ => fun
  | [d1, d2] => { results := [.lit (.bool false)], args := [d1, d2] }
  | _ => none }
def IdsBackWrongFalsely : Prop := idsBackRow.holds Try.pinned (OpenSpec.ofChange idsBackWrong)

/-- 'rostrumlaw10.IdsNone': WHATEVER THE INPUT: true; the input reads as it did. -/
def idsNoneSpec : ChangeSpec := { name := "idsNone", fn := fun _ => fun
  | [d] => { results := [.lit (.bool true)], args := [d] }
  | _ => none }
def idsNoneRow : OpenClaim := { program := "ytbjondnombnpbaa", sum := "560f5e0ef27ec6dcc98bf945c6db3424258e36bed898fb707300083949a37f07", func := "rostrum/rostrumlaw10.IdsNone", spec := "idsNone", unfollowed := true, recurses := true, plainKeys := false, apart := false }
def IdsNoneSaid : Prop := idsNoneRow.holds Try.pinned (OpenSpec.ofChange idsNoneSpec)

/-- ITS FALSE NEIGHBOUR: 'it returns false'. Refute it at one input. -/
def idsNoneWrong : ChangeSpec := { name := "idsNone", fn := fun _ => fun
  | [d] => { results := [.lit (.bool false)], args := [d] }
  | _ => none }
def IdsNoneWrongFalsely : Prop := idsNoneRow.holds Try.pinned (OpenSpec.ofChange idsNoneWrong)

/-- 'rostrumlaw10.IdsOnce': WHATEVER THE INPUT: true; the input reads as it did. -/
def idsOnceSpec : ChangeSpec := { name := "idsOnce", fn := fun _ => fun
  | [d] => { results := [.lit (.bool true)], args := [d] }
  | _ => none }
def idsOnceRow : OpenClaim := { program := "ytbjondnombnpbaa", sum := "560f5e0ef27ec6dcc98bf945c6db3424258e36bed898fb707300083949a37f07", func := "rostrum/rostrumlaw10.IdsOnce", spec := "idsOnce", unfollowed := true, recurses := true, plainKeys := false, apart := false }
def IdsOnceSaid : Prop := idsOnceRow.holds Try.pinned (OpenSpec.ofChange idsOnceSpec)

/-- ITS FALSE NEIGHBOUR: 'it returns false'. Refute it at one input. -/
def idsOnceWrong : ChangeSpec := { name := "idsOnce", fn := fun _ => fun
  | [d] => { results := [.lit (.bool false)], args := [d] }
  | _ => none }
def IdsOnceWrongFalsely : Prop := idsOnceRow.holds Try.pinned (OpenSpec.ofChange idsOnceWrong)

/-- 'rostrumlaw10.IdsOrders': WHATEVER THE INPUT: true; the input reads as it did. -/
def idsOrdersSpec : ChangeSpec := { name := "idsOrders", fn := fun _ => fun
  | [d1, d2, d3] => { results := [.lit (.bool true)], args := [d1, d2, d3] }
  | _ => none }
def idsOrdersRow : OpenClaim := { program := "ytbjondnombnpbaa", sum := "560f5e0ef27ec6dcc98bf945c6db3424258e36bed898fb707300083949a37f07", func := "rostrum/rostrumlaw10.IdsOrders", spec := "idsOrders", unfollowed := true, recurses := true, plainKeys := false, apart := false }
def IdsOrdersSaid : Prop := idsOrdersRow.holds Try.pinned (OpenSpec.ofChange idsOrdersSpec)

/-- ITS FALSE NEIGHBOUR: 'it returns false'. Refute it at one input. -/
def idsOrdersWrong : ChangeSpec := { name := "idsOrders", fn := fun _ => fun
  | [d1, d2, d3] => { results := [.lit (.bool false)], args := [d1, d2, d3] }
  | _ => none }
def IdsOrdersWrongFalsely : Prop := idsOrdersRow.holds Try.pinned (OpenSpec.ofChange idsOrdersWrong)

/- THE SECOND FORM. 'bulk': how many values and letters a reading holds, each counted each time it is reached (what is shared counts as often as it is met; a slice's spare places count too). A statement '..UptoSaid' is the law's where the arguments, and the package variables that the reading takes, are together of bulk at most 1048576: NARROWER than '..Said'. Prove '..Said' where nothing that the law and all that it calls make is longer than what came in: it says more and counts as full. Else prove '..UptoSaid'. A law counts once. -/
mutual
def uptoBulk {H : Type} : DataW H → Nat
  | .lit (.string bytes) => bytes.length + 1
  | .lit _ => 1
  | .nil => 1
  | .ptr d => uptoBulk d + 1
  | .slice elems spare => uptoBulkAll elems + uptoBulkAll spare + 1
  | .agg parts => uptoBulkAll parts + 1
  | .iface _ d => uptoBulk d + 1
  | .map entries => uptoBulkEntries entries + 1
  | .held _ => 1
def uptoBulkAll {H : Type} : List (DataW H) → Nat
  | [] => 0
  | d :: r => uptoBulk d + uptoBulkAll r
def uptoBulkEntries {H : Type} : List (Lit × DataW H) → Nat
  | [] => 0
  | x :: r => uptoBulkEntry x + uptoBulkEntries r
def uptoBulkEntry {H : Type} : Lit × DataW H → Nat
  | (.string bytes, d) => bytes.length + uptoBulk d + 1
  | (_, d) => uptoBulk d + 1
 end
def uptoSmall : (H : Type) → List (DataW H) → Bool := fun _ ds => decide (uptoBulkAll ds ≤ 1048576)
def OpenSpec.upto (s : _root_.Go.ChangeSpec) : _root_.Go.OpenSpec := { _root_.Go.OpenSpec.ofChange s with cond := some uptoSmall }

/-- 'rostrumlaw10.IdsNext', WHERE WHAT IT READS IS OF BULK AT MOST 1048576: true; the input reads as it did. -/
def idsNextUptoRow : OpenClaim := { program := "ytbjondnombnpbaa", sum := "560f5e0ef27ec6dcc98bf945c6db3424258e36bed898fb707300083949a37f07", func := "rostrum/rostrumlaw10.IdsNext", spec := "idsNext", unfollowed := true, recurses := true, plainKeys := false, apart := false, narrowed := true }
def IdsNextUptoSaid : Prop := idsNextUptoRow.holds Try.pinned (OpenSpec.upto idsNextSpec)

/-- 'rostrumlaw10.IdsPacks', WHERE WHAT IT READS IS OF BULK AT MOST 1048576: true; the input reads as it did. -/
def idsPacksUptoRow : OpenClaim := { program := "ytbjondnombnpbaa", sum := "560f5e0ef27ec6dcc98bf945c6db3424258e36bed898fb707300083949a37f07", func := "rostrum/rostrumlaw10.IdsPacks", spec := "idsPacks", unfollowed := true, recurses := true, plainKeys := false, apart := false, narrowed := true }
def IdsPacksUptoSaid : Prop := idsPacksUptoRow.holds Try.pinned (OpenSpec.upto idsPacksSpec)

/-- 'rostrumlaw10.IdsUnpacks', WHERE WHAT IT READS IS OF BULK AT MOST 1048576: true; the input reads as it did. -/
def idsUnpacksUptoRow : OpenClaim := { program := "ytbjondnombnpbaa", sum := "560f5e0ef27ec6dcc98bf945c6db3424258e36bed898fb707300083949a37f07", func := "rostrum/rostrumlaw10.IdsUnpacks", spec := "idsUnpacks", unfollowed := true, recurses := true, plainKeys := false, apart := false, narrowed := true }
def IdsUnpacksUptoSaid : Prop := idsUnpacksUptoRow.holds Try.pinned (OpenSpec.upto idsUnpacksSpec)

/-- 'rostrumlaw10.IdsBack', WHERE WHAT IT READS IS OF BULK AT MOST 1048576: true; the input reads as it did. -/
def idsBackUptoRow : OpenClaim := { program := "ytbjondnombnpbaa", sum := "560f5e0ef27ec6dcc98bf945c6db3424258e36bed898fb707300083949a37f07", func := "rostrum/rostrumlaw10.IdsBack", spec := "idsBack", unfollowed := true, recurses := true, plainKeys := false, apart := false, narrowed := true }
def IdsBackUptoSaid : Prop := idsBackUptoRow.holds Try.pinned (OpenSpec.upto idsBackSpec)

/-- 'rostrumlaw10.IdsNone', WHERE WHAT IT READS IS OF BULK AT MOST 1048576: true; the input reads as it did. -/
def idsNoneUptoRow : OpenClaim := { program := "ytbjondnombnpbaa", sum := "560f5e0ef27ec6dcc98bf945c6db3424258e36bed898fb707300083949a37f07", func := "rostrum/rostrumlaw10.IdsNone", spec := "idsNone", unfollowed := true, recurses := true, plainKeys := false, apart := false, narrowed := true }
def IdsNoneUptoSaid : Prop := idsNoneUptoRow.holds Try.pinned (OpenSpec.upto idsNoneSpec)

/-- 'rostrumlaw10.IdsOnce', WHERE WHAT IT READS IS OF BULK AT MOST 1048576: true; the input reads as it did. -/
def idsOnceUptoRow : OpenClaim := { program := "ytbjondnombnpbaa", sum := "560f5e0ef27ec6dcc98bf945c6db3424258e36bed898fb707300083949a37f07", func := "rostrum/rostrumlaw10.IdsOnce", spec := "idsOnce", unfollowed := true, recurses := true, plainKeys := false, apart := false, narrowed := true }
def IdsOnceUptoSaid : Prop := idsOnceUptoRow.holds Try.pinned (OpenSpec.upto idsOnceSpec)

/-- 'rostrumlaw10.IdsOrders', WHERE WHAT IT READS IS OF BULK AT MOST 1048576: true; the input reads as it did. -/
def idsOrdersUptoRow : OpenClaim := { program := "ytbjondnombnpbaa", sum := "560f5e0ef27ec6dcc98bf945c6db3424258e36bed898fb707300083949a37f07", func := "rostrum/rostrumlaw10.IdsOrders", spec := "idsOrders", unfollowed := true, recurses := true, plainKeys := false, apart := false, narrowed := true }
def IdsOrdersUptoSaid : Prop := idsOrdersUptoRow.holds Try.pinned (OpenSpec.upto idsOrdersSpec)

end Rows
end Go.Proofs.Ytbjondnombnpbaa
