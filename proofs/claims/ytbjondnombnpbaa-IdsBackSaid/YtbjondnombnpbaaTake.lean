/-
  ids.Book.Take, whole.
-/
import Derived.Test.YtbjondnombnpbaaTake2
namespace Go.Proofs.Ytbjondnombnpbaa
open Go.RowKit
theorem take_at {w : World} {b mb : Nat} {lv : Value} {σ : BSt} (hM : BookAt w b mb lv σ) (hO : σ.Ok) (hlen : σ.log.length + σ.wt.length ≤ 1000000) (m : Ms) :
    Calls Try.prog 13 #[.pointer (some ⟨b, 0, none⟩), m.val] w (TakeR b mb lv σ m w) := by
  cases hr : rightB m with
  | false => exact take_bad hM m hr
  | true =>
    cases hn : isNext σ m with
    | false => exact take_wait hM hO m hr hn
    | true => exact (callsIn_wide (n := 5)).1 (take_yes hM hO hlen m hr hn)
end Go.Proofs.Ytbjondnombnpbaa
