/-
  The model, plain: what stays true as happenings go by.
-/
import Derived.Test.YtfnchpjiebojiaaCheck
namespace Go.Proofs.Ytfnchpjiebojiaa
open Go.RowKit

def cnt (f : Int) (l : List Ms) : Nat := (l.filter (fun m => decide (m.f = f))).length
theorem cnt_append (f : Int) (a b : List Ms) : cnt f (a ++ b) = cnt f a + cnt f b := by simp [cnt]
theorem cnt_one (f : Int) (m : Ms) : cnt f [m] = if m.f = f then 1 else 0 := by unfold cnt; by_cases h : m.f = f <;> simp [h]
structure Sq (σ : MSt) : Prop where
  at_ : ∀ i m, σ.log[i]? = some m → m.c = (cnt m.f (σ.log.take i) : Int) + 1 ∧ 0 ≤ m.f ∧ m.f < 16
  lg : ∀ f : Int, 0 ≤ f → f < 16 → σ.lg f.toNat = (cnt f σ.log : Int)
theorem sq0 (n : Nat) : Sq (st0 n) := ⟨fun i m h => by simp [st0] at h, fun f _ _ => by simp [st0, cnt]⟩
theorem lay_sq {σ : MSt} {x : Ms} (hO : σ.Ok) (hS : Sq σ) (h : layB σ x = true) : Sq (layS σ x) := by
  unfold layB at h
  simp only [Bool.and_eq_true, decide_eq_true_eq] at h
  obtain ⟨ho, hc⟩ := h
  have hr := (hO.wt _ (kfind_mem ho)).2
  simp only [rightB, decide_eq_true_eq] at hr
  refine ⟨fun i m hm => ?_, fun f h0 h1 => ?_⟩
  · simp only [layS] at hm ⊢
    by_cases hi : i < σ.log.length
    · rw [List.getElem?_append_left hi] at hm
      rw [List.take_append_of_le_length (by omega)]
      exact hS.at_ i m hm
    · rw [List.getElem?_append_right (by omega)] at hm
      have hi0 : i - σ.log.length = 0 := by
        have := (List.getElem?_eq_some_iff.1 hm).1
        simpa using this
      rw [hi0] at hm
      simp only [List.getElem?_cons_zero, Option.some.injEq] at hm
      subst hm
      have : i = σ.log.length := by omega
      subst this
      rw [List.take_append_of_le_length (by omega), List.take_length]
      have := hS.lg x.f hr.1 hr.2.1
      exact ⟨by omega, hr.1, hr.2.1⟩
  · simp only [layS, updI]
    rw [cnt_append, cnt_one]
    have h2 := hS.lg f h0 h1
    by_cases hf : x.f = f
    · subst hf; simp [h2]
    · have : f.toNat ≠ x.f.toNat := by omega
      simp [this, hf, h2]
theorem hap_sq {σ : MSt} {h : Hp} (hO : σ.Ok) (hS : Sq σ) : Sq (hapT σ h) := by
  unfold hapT
  by_cases hB : hapB σ h = true
  · rw [if_pos hB]
    unfold hapB hapR at hB
    unfold hapS
    simp only [Bool.and_eq_true] at hB
    by_cases h1 : h.k = 1
    · rw [if_pos h1]; exact ⟨hS.at_, hS.lg⟩
    · rw [if_neg h1]; rw [if_neg h1] at hB
      by_cases h3 : h.k = 3
      · rw [if_pos h3]; rw [if_neg (by omega), if_pos h3] at hB
        have hd := hB.2
        unfold deliverB at hd
        unfold deliverS
        by_cases hq : σ.del h.n.toNat = σ.log.length
        · rw [if_pos hq] at hd ⊢
          have := lay_sq hO hS hd
          exact ⟨this.at_, this.lg⟩
        · rw [if_neg hq]; exact ⟨hS.at_, hS.lg⟩
      · rw [if_neg h3]; exact hS
  · rw [if_neg hB]; exact hS

/-- No two of the log have one id. -/
theorem Sq.ids {σ : MSt} (hS : Sq σ) {i j : Nat} {a b : Ms} (ha : σ.log[i]? = some a) (hb : σ.log[j]? = some b) (hf : a.f = b.f) (hc : a.c = b.c) : i = j := by
  have key : ∀ (i j : Nat) (a b : Ms), σ.log[i]? = some a → σ.log[j]? = some b → a.f = b.f → i < j → a.c < b.c := fun i j a b ha hb hf hij => by
    have h1 := (hS.at_ i a ha).1
    have h2 := (hS.at_ j b hb).1
    have hi := (List.getElem?_eq_some_iff.1 ha)
    obtain ⟨hil, hia⟩ := hi
    have hsub : cnt a.f (σ.log.take (i + 1)) ≤ cnt a.f (σ.log.take j) := by
      have e : σ.log.take j = σ.log.take (i + 1) ++ (σ.log.take j).drop (i + 1) := by
        have h := (List.take_append_drop (i + 1) (σ.log.take j)).symm
        rw [List.take_take, Nat.min_eq_left (by omega)] at h
        exact h
      rw [e, cnt_append]; omega
    have hone : cnt a.f (σ.log.take (i + 1)) = cnt a.f (σ.log.take i) + 1 := by
      rw [List.take_succ_eq_append_getElem hil, hia, cnt_append, cnt_one]; simp
    rw [← hf] at h2
    omega
  rcases Nat.lt_trichotomy i j with h | h | h
  · have := key i j a b ha hb hf h; omega
  · exact h
  · have := key j i b a hb ha hf.symm h; omega

/-! ### the log grows, what is delivered stays delivered -/
theorem hap_grow {σ : MSt} {h : Hp} : (∃ t, (hapT σ h).log = σ.log ++ t) ∧ ∀ i, σ.del i ≤ (hapT σ h).del i := by
  unfold hapT hapS acceptS deliverS delS layS updI
  split
  · split
    · exact ⟨⟨[], by simp⟩, fun i => Nat.le_refl _⟩
    · split
      · split
        · refine ⟨⟨_, rfl⟩, fun i => ?_⟩
          simp only; split
          · rename_i h; subst h; omega
          · omega
        · refine ⟨⟨[], by simp⟩, fun i => ?_⟩
          simp only; split
          · rename_i h; subst h; omega
          · omega
      · exact ⟨⟨[], by simp⟩, fun i => Nat.le_refl _⟩
  · exact ⟨⟨[], by simp⟩, fun i => Nat.le_refl _⟩
def Had (σ : MSt) (nd : Nat) (m : Ms) : Prop := ∃ p, p < σ.del nd ∧ σ.log[p]? = some m
theorem Had.hap {σ : MSt} {nd : Nat} {m : Ms} {h : Hp} (hh : Had σ nd m) : Had (hapT σ h) nd m := by
  obtain ⟨p, h1, h2⟩ := hh
  obtain ⟨⟨t, ht⟩, hd⟩ := hap_grow (σ := σ) (h := h)
  exact ⟨p, Nat.lt_of_lt_of_le h1 (hd nd), by rw [ht, List.getElem?_append_left (List.getElem?_eq_some_iff.1 h2).1]; exact h2⟩
theorem had_of_deliver {σ : MSt} {h : Hp} (hk : h.k = 3) (hB : hapB σ h = true) : Had (hapT σ h) h.n.toNat h.m := by
  have hT : hapT σ h = deliverS σ h.n.toNat h.m := by unfold hapT hapS; rw [if_pos hB, if_neg (by omega), if_pos hk]
  rw [hT]
  unfold hapB hapR at hB
  rw [if_neg (by omega), if_neg (by omega), if_pos hk] at hB
  simp only [Bool.and_eq_true] at hB
  have hd := hB.2
  unfold deliverB at hd
  unfold deliverS
  refine ⟨σ.del h.n.toNat, ?_, ?_⟩
  · by_cases hq : σ.del h.n.toNat = σ.log.length <;> simp [hq, delS, updI, layS]
  · by_cases hq : σ.del h.n.toNat = σ.log.length
    · rw [if_pos hq]; simp [delS, layS, hq]
    · rw [if_neg hq] at hd ⊢
      simpa [delS] using hd
theorem deliver_twice {σ : MSt} {h : Hp} (hk : h.k = 3) (hO : σ.Ok) (hS : Sq σ) (hh : Had σ h.n.toNat h.m) : hapB σ h = false := by
  obtain ⟨p, h1, h2⟩ := hh
  have hR : hapR σ h = false := by
    unfold hapR
    rw [if_neg (by omega), if_neg (by omega), if_pos hk]
    unfold deliverB
    by_cases hq : σ.del h.n.toNat = σ.log.length
    · rw [if_pos hq]
      unfold layB
      have h3 := hS.at_ p h.m h2
      have h4 := hS.lg h.m.f h3.2.1 h3.2.2
      have h5 : cnt h.m.f (σ.log.take p) + 1 ≤ cnt h.m.f σ.log := by
        have hp := List.getElem?_eq_some_iff.1 h2
        have e := (List.take_append_drop (p + 1) σ.log).symm
        have := congrArg (cnt h.m.f) e
        rw [cnt_append, List.take_succ_eq_append_getElem hp.1, hp.2, cnt_append, cnt_one] at this
        simp at this
        omega
      have : ¬ (h.m.c = σ.lg h.m.f.toNat + 1) := by omega
      simp [this]
    · rw [if_neg hq]
      refine decide_eq_false fun hc => ?_
      have := hS.ids h2 hc rfl rfl
      omega
  unfold hapB
  rw [hR]; simp
theorem stN_sq {σ : MSt} (hO : σ.Ok) (hS : Sq σ) (l : List Hp) (k : Nat) : Sq (stN σ l k) := by
  induction k with
  | zero => rw [stN_zero]; exact hS
  | succ k ih =>
    by_cases hk : k < l.length
    · rw [stN_succ _ _ hk]; exact hap_sq (stN_ok hO l k).1 ih
    · have : stN σ l (k + 1) = stN σ l k := by unfold stN; rw [List.take_of_length_le (by omega), List.take_of_length_le (by omega)]
      rw [this]; exact ih
theorem Had.later {σ : MSt} {nd : Nat} {m : Ms} (l : List Hp) {i : Nat} (h : Had (stN σ l i) nd m) : ∀ j, Had (stN σ l (i + j)) nd m
  | 0 => h
  | j + 1 => by
    have ih := Had.later l h j
    by_cases hk : i + j < l.length
    · rw [← Nat.add_assoc, stN_succ _ _ hk]; exact ih.hap
    · have : stN σ l (i + (j + 1)) = stN σ l (i + j) := by unfold stN; rw [List.take_of_length_le (by omega), List.take_of_length_le (by omega)]
      rw [this]; exact ih
/-- ModelRepeats, plain. -/
theorem repeats_plain (n : Nat) (h1 : 1 ≤ n) (h16 : n ≤ 16) (l : List Hp) (a : Nat) (ha : a < l.length) (hk : l[a].k = 3) (hB : hapB (stN (st0 n) l a) l[a] = true) : hapB (stN (st0 n) l l.length) l[a] = false := by
  have hO := st0_ok h1 h16
  have h2 := had_of_deliver hk hB
  rw [← stN_succ _ _ ha] at h2
  have h3 := h2.later l (l.length - (a + 1))
  rw [show a + 1 + (l.length - (a + 1)) = l.length from by omega] at h3
  exact deliver_twice hk (stN_ok hO l _).1 (stN_sq hO (sq0 n) l _) h3
end Go.Proofs.Ytfnchpjiebojiaa
