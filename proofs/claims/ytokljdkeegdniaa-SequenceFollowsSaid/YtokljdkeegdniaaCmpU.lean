/-
  cmp.Compare at uint32.
-/
import Derived.Test.YtokljdkeegdniaaFlex4
import Derived.Test.YtokljdkeegdniaaMem
import Derived.Test.YtokljdkeegdniaaProg
namespace Go.Proofs.Ytokljdkeegdniaa
open Go.RowKit Go.Sort

def cmpI (x y : Int) : Int := if x < y then -1 else if y < x then 1 else 0
theorem nan_u32 (x : Int) (w : World) : Calls Try.prog 45 #[.int .u32 x] w fun e w' => e = .returned (.bool false) ∧ w' = w := by
  go_enter Try.func45, Try.ntmps45
  go_wp2
  go_ret
  exact ⟨by simp, rfl⟩
theorem cmp_u32 (x y : Int) (w : World) : Calls Try.prog 40 #[.int .u32 x, .int .u32 y] w fun e w' => e = .returned (.int .i64 (cmpI x y)) ∧ w' = w := by
  unfold cmpI
  by_cases h1 : x < y
  · rw [if_pos h1]
    go_enter Try.func40, Try.ntmps40
    go_wp2_with (go_at_call 45; refine (nan_u32 _ _).mono ?_; rintro e w' ⟨rfl, rfl⟩)
    go_ret
    exact ⟨rfl, rfl⟩
  · rw [if_neg h1]
    by_cases h2 : y < x
    · rw [if_pos h2]
      go_enter Try.func40, Try.ntmps40
      go_wp2_with (go_at_call 45; refine (nan_u32 _ _).mono ?_; rintro e w' ⟨rfl, rfl⟩)
      go_ret
      exact ⟨rfl, rfl⟩
    · rw [if_neg h2]
      go_enter Try.func40, Try.ntmps40
      go_wp2_with (go_at_call 45; refine (nan_u32 _ _).mono ?_; rintro e w' ⟨rfl, rfl⟩)
      go_ret
      exact ⟨rfl, rfl⟩
end Go.Proofs.Ytokljdkeegdniaa
