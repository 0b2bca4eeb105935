/-
  The book, plain: an origin's next Count is one more than how many of it were taken.
-/
import Derived.Test.YtbjondnombnpbaaPlainB2
namespace Go.Proofs.Ytbjondnombnpbaa
open Go.RowKit

theorem updI_updI {β : Type} (f : Nat → β) (i : Nat) (a b : β) : updI (updI f i a) i b = updI f i b := by
  funext j; unfold updI; split <;> rfl
theorem eat_tk {σ : BSt} (hO : σ.Ok) {x : Ms} (hx : rightB x = true) : ∀ k, k < (rowL σ.wt x).length → (eatN σ ((rowL σ.wt x).take (k + 1))).tk = updI σ.tk x.f.toNat (x.c + k)
  | 0, hk => by
    obtain ⟨r1, r2, -⟩ := rowL_at hO hx
    rw [List.take_succ_eq_append_getElem hk]
    obtain ⟨q1, q2, -⟩ := r2 0 _ (List.getElem?_eq_getElem hk)
    simp only [List.take_zero, List.nil_append, eatN, List.foldl_cons, List.foldl_nil, eatS]
    rw [q1, q2]
  | k + 1, hk => by
    have ih := eat_tk hO hx k (by omega)
    obtain ⟨r1, r2, -⟩ := rowL_at hO hx
    obtain ⟨q1, q2, -⟩ := r2 (k + 1) _ (List.getElem?_eq_getElem hk)
    rw [List.take_succ_eq_append_getElem hk, eatN_snoc]
    simp only [eatS]
    rw [q1, q2, ih, updI_updI]
theorem eat_tk_all {σ : BSt} (hO : σ.Ok) {x : Ms} (hx : rightB x = true) : (eatN σ (rowL σ.wt x)).tk = updI σ.tk x.f.toNat (x.c + (((rowL σ.wt x).length - 1 : Nat) : Int)) := by
  have h0 := row_pos hO hx
  have := eat_tk hO hx ((rowL σ.wt x).length - 1) (by omega)
  rwa [show (rowL σ.wt x).length - 1 + 1 = (rowL σ.wt x).length from by omega, List.take_length] at this
theorem row_f {σ : BSt} (hO : σ.Ok) {x : Ms} (hx : rightB x = true) : ∀ m ∈ rowL σ.wt x, m.f = x.f ∧ x.c ≤ m.c := fun m hm => by
  obtain ⟨k, hk⟩ := List.mem_iff_getElem?.1 hm
  obtain ⟨q1, q2, -⟩ := (rowL_at hO hx).2.1 k m hk
  exact ⟨q1, by omega⟩
theorem countF_append (a b : List Ms) (f : Int) : countF (a ++ b) f = countF a f + countF b f := by simp [countF]
theorem countF_all {l : List Ms} {f : Int} (h : ∀ m ∈ l, m.f = f) : countF l f = l.length := by
  unfold countF
  rw [List.filter_eq_self.2 (fun m hm => by simp [h m hm])]
theorem countF_no {l : List Ms} {f g : Int} (h : ∀ m ∈ l, m.f = g) (hn : g ≠ f) : countF l f = 0 := by
  unfold countF
  rw [List.length_eq_zero_iff, List.filter_eq_nil_iff]
  intro m hm; simp [h m hm, hn]
structure Bq (σ : BSt) : Prop where
  ok : σ.Ok
  cnt : ∀ f : Int, 0 ≤ f → f < 16 → σ.tk f.toNat = countF σ.log f
  nn : ∀ f : Int, 0 ≤ f → f < 16 → kfind (f, σ.tk f.toNat + 1) σ.wt = none
theorem b0_q : Bq b0 := ⟨b0_ok, by simp [b0, countF], by simp [b0, kfind]⟩
theorem take_q {σ : BSt} (h : Bq σ) (m : Ms) : Bq (takeS σ m) := by
  refine ⟨take_ok h.ok m, ?_, ?_⟩
  · intro f h0 h1
    unfold takeS
    by_cases hr : rightB m = true
    · rw [if_pos hr]
      have hm := rightB_iff.1 hr
      by_cases hn : isNext σ m = true
      · rw [if_pos hn]
        simp only
        rw [eat_tk_all h.ok hr, countF_append]
        have hp := row_pos h.ok hr
        have hf := row_f h.ok hr
        have hc : m.c = σ.tk m.f.toNat + 1 := by simpa [isNext] using hn
        unfold updI
        by_cases e : f = m.f
        · subst e
          rw [if_pos rfl, countF_all (fun y hy => (hf y hy).1)]
          have := h.cnt m.f h0 h1
          push_cast
          omega
        · rw [if_neg (by omega), countF_no (fun y hy => (hf y hy).1) (Ne.symm e)]
          exact h.cnt f h0 h1
      · rw [if_neg hn]
        unfold waitS
        split
        · exact h.cnt f h0 h1
        · exact h.cnt f h0 h1
    · rw [if_neg hr]; exact h.cnt f h0 h1
  · intro f h0 h1
    unfold takeS
    by_cases hr : rightB m = true
    · rw [if_pos hr]
      have hm := rightB_iff.1 hr
      by_cases hn : isNext σ m = true
      · rw [if_pos hn]
        simp only
        rw [eat_tk_all h.ok hr]
        have hp := row_pos h.ok hr
        have hf := row_f h.ok hr
        unfold updI
        by_cases e : f = m.f
        · subst e
          rw [if_pos rfl]
          have := row_left h.ok hr ((rowL σ.wt m).length - 1) (by omega)
          rw [show (rowL σ.wt m).length - 1 + 1 = (rowL σ.wt m).length from by omega, List.take_length] at this
          rw [this]; simp
        · rw [if_neg (by omega), eat_find]
          · exact h.nn f h0 h1
          · intro y hy hk
            injection hk with hk _
            exact e (hk.trans (hf y hy).1)
      · rw [if_neg hn]
        have hc : ¬ m.c = σ.tk m.f.toNat + 1 := by simpa [isNext] using hn
        unfold waitS
        split
        · exact h.nn f h0 h1
        · simp only
          rw [kfind_put_other]
          · exact h.nn f h0 h1
          · intro hk
            injection hk with hk1 hk2
            subst hk1
            exact hc hk2.symm
    · rw [if_neg hr]; exact h.nn f h0 h1
def stB (l : List Ms) (k : Nat) : BSt := (l.take k).foldl takeS b0
theorem stB_zero (l : List Ms) : stB l 0 = b0 := by simp [stB]
theorem stB_succ (l : List Ms) {k : Nat} (hk : k < l.length) : stB l (k + 1) = takeS (stB l k) l[k] := by
  unfold stB; rw [List.take_succ_eq_append_getElem hk, List.foldl_append]; rfl
theorem stB_q (l : List Ms) : ∀ k, Bq (stB l k) ∧ (stB l k).log.length + (stB l k).wt.length ≤ k
  | 0 => by rw [stB_zero]; exact ⟨b0_q, by simp [b0]⟩
  | k + 1 => by
    have ih := stB_q l k
    by_cases hk : k < l.length
    · rw [stB_succ l hk]
      exact ⟨take_q ih.1 _, Nat.le_trans (take_len ih.1.ok _) (by omega)⟩
    · have : stB l (k + 1) = stB l k := by unfold stB; rw [List.take_of_length_le (by omega), List.take_of_length_le (by omega)]
      rw [this]; exact ⟨ih.1, by omega⟩
/-- IdsNext, plain. -/
theorem next_plain {σ : BSt} (h : Bq σ) (f : Int) (h0 : 0 ≤ f) (h1 : f < 16) : nextB σ f = 1 + (countF σ.log f : Int) ∧ hasB σ f (1 + (countF σ.log f : Int)) = false := by
  have hc := h.cnt f h0 h1
  refine ⟨by unfold nextB; rw [if_pos ⟨h0, h1⟩]; omega, ?_⟩
  unfold hasB
  have hn := h.nn f h0 h1
  rw [show (1 + (countF σ.log f : Int)) = σ.tk f.toNat + 1 from by omega, hn]
  simp
  omega
end Go.Proofs.Ytbjondnombnpbaa
