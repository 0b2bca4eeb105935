/-
  batch.Pool: Batch, of a nil pool, and of a number that is none.
-/
import Derived.Test.YtkkcdoajdhbofaaPend
namespace Go.Proofs.Ytkkcdoajdhbofaa
open Go.RowKit
attribute [local go_sem] Oper.semAt_some

def BatchR (w : World) (σ : PSt) (n : Int) (e : Ending) (w' : World) : Prop := ∃ nv, e = .returned (.tuple #[nv, .int .i64 (batchE n)]) ∧ OwnMs w' nv (batchL σ n) ∧ Ext w w' ∧ ∀ x, nv.ownBlock = some x → w.heap.size ≤ x
theorem batch_nil (w : World) (n : Int) : Calls Try.prog 15 #[.pointer none, .int .i64 n] w fun e w' => e = .returned (.tuple #[.slice none 0 0, .int .i64 1]) ∧ Ext w w' := by
  have HE := Lib.hid (Ext.alloc w (.cells #[.int .i64 n] 3))
  go_enter Try.func15, Try.ntmps15
  go_wp2
  refine wp_scope_straight ?_
  go_wp2_with (go_at_call 26; refine (isNil_nil _).mono ?_; rintro e w' ⟨rfl, rfl⟩)
  simp only [Exit.noGoto]
  go_ret2
  exact ⟨rfl, HE.out⟩
set_option maxRecDepth 100000 in
theorem batch_bad {w : World} {b mw md : Nat} {σ : PSt} (h : PoolAt w b mw md σ) (n : Int) (hn : ¬ (1 ≤ n ∧ n ≤ 64)) : Calls Try.prog 15 #[.pointer (some ⟨b, 0, none⟩), .int .i64 n] w (BatchR w σ n) := by
  have hE := Ext.alloc w (.cells #[.int .i64 n] 3)
  have H := Lib.hid (h.ext hE)
  have HE := Lib.hid hE
  have hR : BatchR w σ n (.returned (.tuple #[.slice none 0 0, .int .i64 2])) (w.alloc (.cells #[.int .i64 n] 3)) := by
    refine ⟨_, by unfold batchE; rw [if_neg hn], ?_, hE, fun x hx => by simp [Value.ownBlock] at hx⟩
    unfold batchL; rw [if_neg hn]; exact Own.nil
  have HR := Lib.hid hR
  clear h hE hR
  by_cases h1 : n < 1
  · clear hn
    go_enter Try.func15, Try.ntmps15
    go_wp2
    refine wp_scope_straight ?_
    go_wp2_with (go_at_call 26; refine (isNil_at H.out).mono ?_; rintro e w' ⟨rfl, rfl⟩)
    simp only [Exit.noGoto]
    go_ret2
    exact HR.out
  · have h2 : 64 < n := by omega
    clear hn
    go_enter Try.func15, Try.ntmps15
    go_wp2
    refine wp_scope_straight ?_
    go_wp2_with (go_at_call 26; refine (isNil_at H.out).mono ?_; rintro e w' ⟨rfl, rfl⟩)
    simp only [Exit.noGoto]
    go_ret2
    exact HR.out
end Go.Proofs.Ytkkcdoajdhbofaa
