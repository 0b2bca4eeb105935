/-
  The pool, plain: messages added one by one; a batch done.
-/
import Derived.Test.YtkkcdoajdhbofaaPlainP
namespace Go.Proofs.Ytkkcdoajdhbofaa
open Go.RowKit

theorem addS_twice (σ : PSt) (m : Ms) : addS (addS σ m) m = addS σ m := by
  unfold addS
  by_cases hr : rightB m = true
  · simp only [if_pos hr]
    by_cases hh : hasP σ (keyM m) = true
    · simp only [if_pos hh]
    · simp only [if_neg hh]
      by_cases hl : 1000 ≤ σ.wt.length
      · simp only [if_pos hl]; rw [if_neg hh]
      · simp only [if_neg hl]
        have : hasP { σ with wt := kput (keyM m) m σ.wt } (keyM m) = true := by unfold hasP; simp only [kfind_put_self]; rfl
        rw [if_pos this]
  · simp only [if_neg hr]
def stP (l : List Ms) (k : Nat) : PSt := (l.take k).foldl addS p0
theorem stP_zero (l : List Ms) : stP l 0 = p0 := by simp [stP]
theorem stP_succ (l : List Ms) {k : Nat} (hk : k < l.length) : stP l (k + 1) = addS (stP l k) l[k] := by
  unfold stP; rw [List.take_succ_eq_append_getElem hk, List.foldl_append]; rfl
theorem kput_len (σ : PSt) (m : Ms) : (addS σ m).wt.length ≤ σ.wt.length + 1 := by
  unfold addS
  split
  · split
    · omega
    · split
      · omega
      · rename_i hh _
        have hh' : hasP σ (keyM m) = false := by simpa using hh
        unfold hasP at hh'
        rw [Bool.or_eq_false_iff] at hh'
        simp only
        rw [kput_new (by simpa using hh'.1)]; simp
  · omega
theorem addS_dn (σ : PSt) (m : Ms) : (addS σ m).dn = σ.dn := by
  unfold addS
  split
  · split
    · rfl
    · split <;> rfl
  · rfl
theorem hasP_add {σ : PSt} {j : Int × Int} (m : Ms) (h : hasP σ j = true) : hasP (addS σ m) j = true := by
  unfold addS
  split
  · split
    · exact h
    · split
      · exact h
      · unfold hasP isB at *
        simp only
        by_cases e : j = keyM m
        · subst e; simp [kfind_put_self]
        · rw [kfind_put_other _ _ e]; exact h
  · exact h
theorem hasP_self {σ : PSt} {m : Ms} (hr : rightB m = true) (hl : σ.wt.length < 1000) : hasP (addS σ m) (keyM m) = true := by
  unfold addS
  rw [if_pos hr]
  split
  · rename_i h; exact h
  · rw [if_neg (by omega)]
    unfold hasP; simp [kfind_put_self]
structure StP (σ : PSt) (l : List Ms) : Prop where
  ok : σ.Ok
  dn : σ.dn = []
  has : ∀ m ∈ l, rightB m = true → hasP σ (keyM m) = true
theorem stP_all (l : List Ms) (h80 : l.length ≤ 80) : ∀ k, k ≤ l.length → StP (stP l k) (l.take k) ∧ (stP l k).wt.length ≤ k
  | 0, _ => by rw [stP_zero]; exact ⟨⟨p0_ok, rfl, by simp⟩, by simp [p0]⟩
  | k + 1, hk => by
    obtain ⟨h1, h2⟩ := stP_all l h80 k (by omega)
    rw [stP_succ l hk, List.take_succ_eq_append_getElem hk]
    refine ⟨⟨add_ok h1.ok _, by rw [addS_dn]; exact h1.dn, fun m hm hr => ?_⟩, by have := kput_len (stP l k) l[k]; omega⟩
    rcases List.mem_append.1 hm with hm | hm
    · exact hasP_add _ (h1.has m hm hr)
    · simp only [List.mem_cons, List.not_mem_nil, or_false] at hm
      subst hm
      exact hasP_self hr (by omega)

/-! ### a batch done -/
theorem kfind_val {σ : PSt} (hO : σ.Ok) {m : Ms} (hm : m ∈ valsP σ) : kfind (keyM m) σ.wt = some m ∧ rightB m = true ∧ isB σ (keyM m) = false := by
  obtain ⟨p, hp, rfl⟩ := List.mem_map.1 hm
  obtain ⟨h1, h2⟩ := hO.wt p hp
  have h3 := hO.dis p hp
  have := kfind_of_mem hO.keys (k := p.1) (v := p.2) hp
  rw [h1] at this h3
  exact ⟨this, h2, h3⟩
theorem done_split : ∀ (l R : List Ms) (σ : PSt), σ.Ok → (valsP σ).Perm (l ++ R) → doneL σ l = l ∧ (valsP (doneN σ l)).Perm R ∧ rightL l = true
  | [], R, σ, _, h => ⟨rfl, h, rfl⟩
  | m :: t, R, σ, hO, h => by
    obtain ⟨h1, h2, h3⟩ := kfind_val hO (h.mem_iff.2 (List.mem_cons_self ..))
    have hd : done1 σ m = ⟨kdel (keyM m) σ.wt, kput (keyM m) () σ.dn⟩ := by unfold done1; rw [h3]; rfl
    have hp := (kdel_perm h1).map (·.2)
    have hv : (valsP (done1 σ m)).Perm (t ++ R) := by
      rw [hd]
      exact List.Perm.cons_inv (hp.symm.trans h)
    obtain ⟨i1, i2, i3⟩ := done_split t R (done1 σ m) (done1_ok hO m) hv
    refine ⟨?_, i2, ?_⟩
    · unfold doneL; rw [h3, i1]; rfl
    · unfold rightL at *; rw [List.all_cons, h2, i3]; rfl
theorem batch_done {σ : PSt} (hO : σ.Ok) (n : Nat) : doneA σ ((pend σ).take n) = (pend σ).take n ∧ doneE ((pend σ).take n) = 0 ∧ pend (doneS σ ((pend σ).take n)) = (pend σ).drop n := by
  obtain ⟨h1, h2, h3⟩ := done_split ((pend σ).take n) ((pend σ).drop n) σ hO (by rw [List.take_append_drop]; exact (srtL_perm _).symm)
  refine ⟨by unfold doneA; rw [h3, if_pos rfl]; exact h1, by unfold doneE; rw [h3]; rfl, ?_⟩
  have hd : doneS σ ((pend σ).take n) = doneN σ ((pend σ).take n) := by unfold doneS; rw [h3]; rfl
  rw [hd]
  exact srtL_eq h2.symm (hO.rise.sublist (List.drop_sublist _ _)) (doneN_ok hO).nodup
theorem hasP_done1 {σ : PSt} {j : Int × Int} (m : Ms) (h : hasP σ j = true) : hasP (done1 σ m) j = true := by
  unfold done1
  split
  · exact h
  · unfold hasP
    rw [isB_put]
    by_cases e : j = keyM m
    · simp [e]
    · simp only
      rw [kfind_del_other e]
      unfold hasP at h
      simp [e]
      simpa using h
theorem hasP_doneN {j : Int × Int} : ∀ (l : List Ms) (σ : PSt), hasP σ j = true → hasP (doneN σ l) j = true
  | [], _, h => h
  | m :: t, σ, h => hasP_doneN t (done1 σ m) (hasP_done1 m h)
theorem hasP_doneS {σ : PSt} {j : Int × Int} (l : List Ms) (h : hasP σ j = true) : hasP (doneS σ l) j = true := by
  unfold doneS; split
  · exact hasP_doneN l σ h
  · exact h
theorem isB_of_empty {σ : PSt} {j : Int × Int} (h : hasP σ j = true) (he : (pend σ).length = 0) : isB σ j = true := by
  rw [pend_len] at he
  have : σ.wt = [] := List.eq_nil_of_length_eq_zero he
  unfold hasP at h
  rw [this] at h
  simpa [kfind] using h
end Go.Proofs.Ytkkcdoajdhbofaa
