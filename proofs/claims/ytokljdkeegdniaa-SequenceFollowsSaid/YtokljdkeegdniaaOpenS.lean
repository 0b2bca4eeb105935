/-
  Arguments opened: a string.
-/
import Derived.Test.YtokljdkeegdniaaOpenN
namespace Go.Proofs.Ytokljdkeegdniaa
open Go.Joins Go.ChangeShapes Go.WideShapes Go.ChangeAt Go.RowKit
set_option maxRecDepth 100000
section
variable {H : Type} {enc : TypeId × Value → H} {w : World} {base : Nat} {spare : Nat → Bool} {held : Bool}
theorem open_str {r : Reach} {b0 : Nat} {v : Value} {d : DataW H} {ps : List MemPlace} (hval : Value.okWide Try.prog w r b0 9 v) (hd : DataW.Trod enc Try.prog w base spare held 9 v d ps) : ∃ s : ByteArray, v = .string s ∧ True := by
  obtain ⟨s, rfl⟩ := okWide_string Try.underlying9 hval
  exact ⟨s, rfl, trivial⟩
end
end Go.Proofs.Ytokljdkeegdniaa
