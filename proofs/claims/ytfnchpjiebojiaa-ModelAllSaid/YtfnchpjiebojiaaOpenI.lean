/-
  Arguments opened: integers.
-/
import Derived.Test.YtfnchpjiebojiaaShut
import Derived.Test.YtfnchpjiebojiaaAllM
import Derived.Lib.SmallJoins
namespace Go.Proofs.Ytfnchpjiebojiaa
open Go.Joins Go.ChangeShapes Go.WideShapes Go.ChangeAt Go.RowKit
section
variable {H : Type} {enc : TypeId × Value → H} {w : World} {base : Nat} {spare : Nat → Bool} {held : Bool}
theorem trod_i {fuel : Nat} {cs : List Value} {x : DataW H × List MemPlace} (h : DataW.trod enc Try.prog w base spare held fuel 3 cs = some x) : ∃ m : Int, cs = encI .i64 m ∧ True := by
  obtain ⟨k, e0, _, hf⟩ := DataW.trod_int Try.underlying3 h
  exact ⟨k, e0, trivial⟩
theorem open_il {r : Reach} {b0 : Nat} {v : Value} {d : DataW H} {ps : List MemPlace} (hval : Value.okWide Try.prog w r b0 50 v) (hd : DataW.Trod enc Try.prog w base spare held 50 v d ps) : ∃ l, IL .i64 w v l ∧ ∀ h ∈ l, (fun _ => True) h :=
  open_sl (encI .i64) 1 (encI_len _) (by decide) (fun _ => True) Try.underlying50 (by kernel_rfl) (fun _ _ _ h => trod_i h) hval hd
end
end Go.Proofs.Ytfnchpjiebojiaa
