/-
  cmp.Compare at uint32.
-/
import Derived.Test.YtbjondnombnpbaaFlex4
import Derived.Test.YtbjondnombnpbaaMem
import Derived.Test.YtbjondnombnpbaaProg
namespace Go.Proofs.Ytbjondnombnpbaa
open Go.RowKit Go.Sort

def cmpI (x y : Int) : Int := if x < y then -1 else if y < x then 1 else 0
theorem nan_u32 (x : Int) (w : World) : Calls Try.prog 47 #[.int .u32 x] w fun e w' => e = .returned (.bool false) ∧ w' = w := by
  go_enter Try.func47, Try.ntmps47
  go_wp2
  go_ret
  exact ⟨by simp, rfl⟩
theorem cmp_u32 (x y : Int) (w : World) : Calls Try.prog 39 #[.int .u32 x, .int .u32 y] w fun e w' => e = .returned (.int .i64 (cmpI x y)) ∧ w' = w := by
  unfold cmpI
  by_cases h1 : x < y
  · rw [if_pos h1]
    go_enter Try.func39, Try.ntmps39
    go_wp2_with (go_at_call 47; refine (nan_u32 _ _).mono ?_; rintro e w' ⟨rfl, rfl⟩)
    go_ret
    exact ⟨rfl, rfl⟩
  · rw [if_neg h1]
    by_cases h2 : y < x
    · rw [if_pos h2]
      go_enter Try.func39, Try.ntmps39
      go_wp2_with (go_at_call 47; refine (nan_u32 _ _).mono ?_; rintro e w' ⟨rfl, rfl⟩)
      go_ret
      exact ⟨rfl, rfl⟩
    · rw [if_neg h2]
      go_enter Try.func39, Try.ntmps39
      go_wp2_with (go_at_call 47; refine (nan_u32 _ _).mono ?_; rintro e w' ⟨rfl, rfl⟩)
      go_ret
      exact ⟨rfl, rfl⟩
end Go.Proofs.Ytbjondnombnpbaa
