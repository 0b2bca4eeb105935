/-
  The model, plain: what a node delivers comes in each origin's order, and what two nodes deliver.
-/
import Derived.Test.YtfnchpjiebojiaaPlainM
namespace Go.Proofs.Ytfnchpjiebojiaa
open Go.RowKit

theorem hapB_lt (σ : MSt) (l : List Hp) : ∀ (k : Nat) (hk : k < l.length), k < okN σ l → hapB (stN σ l k) l[k] = true := by
  induction l generalizing σ with
  | nil => intro k hk; simp at hk
  | cons h t ih =>
    intro k hk h1
    unfold okN at h1
    cases k with
    | zero =>
      rw [stN_zero]; simp only [List.getElem_cons_zero]
      by_cases hb : hapB σ h = true
      · exact hb
      · rw [if_neg hb] at h1; omega
    | succ k =>
      by_cases hb : hapB σ h = true
      · rw [if_pos hb] at h1
        have := ih (hapT σ h) k (by simpa using hk) (by omega)
        simpa [stN] using this
      · rw [if_neg hb] at h1; omega

/-- How many of an origin a node delivered. -/
def nx (σ : MSt) (nd : Nat) (f : Int) : Nat := cnt f (σ.log.take (σ.del nd))
theorem hapB_node {σ : MSt} {h : Hp} (hB : hapB σ h = true) : 0 ≤ h.n ∧ h.n < σ.n := by
  unfold hapB at hB; simp only [Bool.and_eq_true, decide_eq_true_eq] at hB; exact hB.1
/-- What a delivery is. -/
theorem deliver_yes {σ : MSt} {h : Hp} (hO : σ.Ok) (hS : Sq σ) (hk : h.k = 3) (hB : hapB σ h = true) :
    (hapT σ h).log[σ.del h.n.toNat]? = some h.m ∧ (hapT σ h).del = updI σ.del h.n.toNat (σ.del h.n.toNat + 1) := by
  have hT : hapT σ h = deliverS σ h.n.toNat h.m := by unfold hapT hapS; rw [if_pos hB, if_neg (by omega), if_pos hk]
  rw [hT]
  unfold hapB hapR at hB
  rw [if_neg (by omega), if_neg (by omega), if_pos hk] at hB
  simp only [Bool.and_eq_true] at hB
  have hd := hB.2
  unfold deliverB at hd
  unfold deliverS
  by_cases hq : σ.del h.n.toNat = σ.log.length
  · rw [if_pos hq]; refine ⟨?_, rfl⟩; simp [delS, layS, hq]
  · rw [if_neg hq] at hd ⊢
    exact ⟨by simpa [delS] using hd, rfl⟩
theorem nx_deliver {σ : MSt} {h : Hp} (hO : σ.Ok) (hS : Sq σ) (hk : h.k = 3) (hB : hapB σ h = true) :
    0 ≤ h.m.f ∧ h.m.f < 16 ∧ h.m.c = (nx σ h.n.toNat h.m.f : Int) + 1 := by
  obtain ⟨h1, h2⟩ := deliver_yes hO hS hk hB
  obtain ⟨⟨t, ht⟩, _⟩ := hap_grow (σ := σ) (h := h)
  have h3 := (hap_sq (h := h) hO hS).at_ _ _ h1
  have hd := hO.del h.n.toNat
  refine ⟨h3.2.1, h3.2.2, ?_⟩
  rw [h3.1, ht, List.take_append_of_le_length hd]
  rfl
theorem nx_step {σ : MSt} {h : Hp} (hO : σ.Ok) (hS : Sq σ) (nd : Nat) (f : Int) :
    nx (hapT σ h) nd f = nx σ nd f + (if hapB σ h = true ∧ h.k = 3 ∧ nd = h.n.toNat ∧ h.m.f = f then 1 else 0) := by
  obtain ⟨⟨t, ht⟩, _⟩ := hap_grow (σ := σ) (h := h)
  have hdl := hO.del nd
  by_cases hB : hapB σ h = true
  · by_cases hk : h.k = 3
    · obtain ⟨h1, h2⟩ := deliver_yes hO hS hk hB
      unfold nx
      rw [h2]; unfold updI
      by_cases hn : nd = h.n.toNat
      · subst hn
        rw [if_pos rfl]
        obtain ⟨hl, hg⟩ := List.getElem?_eq_some_iff.1 h1
        rw [List.take_succ_eq_append_getElem hl, hg, cnt_append, cnt_one, ht, List.take_append_of_le_length hdl]
        by_cases hf : h.m.f = f <;> simp [hB, hk, hf]
      · rw [if_neg hn, ht, List.take_append_of_le_length hdl]
        simp [hn]
    · have hd : (hapT σ h).del = σ.del := by
        unfold hapT hapS acceptS
        rw [if_pos hB, if_neg hk]
        split <;> rfl
      unfold nx
      rw [hd, ht, List.take_append_of_le_length hdl]
      simp [hk]
  · have : hapT σ h = σ := by unfold hapT; rw [if_neg hB]
    rw [this]; simp [hB]

/-! ### what is delivered was accepted -/
def accL (A : List Ms) (h : Hp) : List Ms := if h.k = 1 then A ++ [h.m] else A
def Al (σ : MSt) (A : List Ms) : Prop := (∀ p ∈ σ.wt, p.2 ∈ A) ∧ ∀ m ∈ σ.log, m ∈ A
theorem al_step {σ : MSt} {h : Hp} {A : List Ms} (hB : hapB σ h = true) (hA : Al σ A) : Al (hapT σ h) (accL A h) := by
  obtain ⟨hw, hl⟩ := hA
  unfold hapT hapS accL
  rw [if_pos hB]
  by_cases h1 : h.k = 1
  · rw [if_pos h1, if_pos h1]
    refine ⟨fun p hp => ?_, fun m hm => List.mem_append_left _ (hl m hm)⟩
    rcases mem_kput hp with rfl | hp
    · simp
    · exact List.mem_append_left _ (hw p hp)
  · rw [if_neg h1, if_neg h1]
    by_cases h3 : h.k = 3
    · rw [if_pos h3]
      unfold hapB hapR at hB
      rw [if_neg (by omega), if_neg (by omega), if_pos h3] at hB
      simp only [Bool.and_eq_true] at hB
      have hd := hB.2
      unfold deliverB at hd
      unfold deliverS
      by_cases hq : σ.del h.n.toNat = σ.log.length
      · rw [if_pos hq] at hd ⊢
        unfold layB at hd
        simp only [Bool.and_eq_true, decide_eq_true_eq] at hd
        have hm := hw _ (kfind_mem hd.1)
        refine ⟨fun p hp => hw p (mem_kdel hp), fun m hm' => ?_⟩
        simp only [delS, layS, List.mem_append, List.mem_singleton] at hm'
        rcases hm' with h | h
        · exact hl m h
        · rw [h]; exact hm
      · rw [if_neg hq]; exact ⟨hw, hl⟩
    · rw [if_neg h3]; exact ⟨hw, hl⟩
theorem take_step {σ : MSt} {h : Hp} (hO : σ.Ok) (hS : Sq σ) (hB : hapB σ h = true) (nd : Nat) :
    (hapT σ h).log.take ((hapT σ h).del nd) = σ.log.take (σ.del nd) ++ (if h.k = 3 ∧ nd = h.n.toNat then [h.m] else []) := by
  obtain ⟨⟨t, ht⟩, _⟩ := hap_grow (σ := σ) (h := h)
  have hdl := hO.del nd
  by_cases hk : h.k = 3
  · obtain ⟨h1, h2⟩ := deliver_yes hO hS hk hB
    rw [h2]; unfold updI
    by_cases hn : nd = h.n.toNat
    · subst hn
      rw [if_pos rfl]
      obtain ⟨hl, hg⟩ := List.getElem?_eq_some_iff.1 h1
      rw [List.take_succ_eq_append_getElem hl, hg, ht, List.take_append_of_le_length hdl]
      simp [hk]
    · rw [if_neg hn, ht, List.take_append_of_le_length hdl]
      simp [hn]
  · have hd : (hapT σ h).del = σ.del := by
      unfold hapT hapS acceptS
      rw [if_pos hB, if_neg hk]
      split <;> rfl
    rw [hd, ht, List.take_append_of_le_length hdl]
    simp [hk]
/-- A delivery is of one that was accepted, and no id that stands there. -/
theorem deliver_ok {σ : MSt} {h : Hp} {A : List Ms} (hO : σ.Ok) (hS : Sq σ) (hA : Al σ A) (hk : h.k = 3) (hB : hapB σ h = true) :
    h.m ∈ A ∧ ∀ m ∈ σ.log.take (σ.del h.n.toNat), ¬ (m.f = h.m.f ∧ m.c = h.m.c) := by
  obtain ⟨h1, h2⟩ := deliver_yes hO hS hk hB
  have hA' := al_step hB hA
  have hS' := hap_sq (h := h) hO hS
  obtain ⟨⟨t, ht⟩, _⟩ := hap_grow (σ := σ) (h := h)
  refine ⟨?_, fun m hm hid => ?_⟩
  · have := hA'.2 h.m (List.mem_of_getElem? h1)
    unfold accL at this; rw [if_neg (by omega)] at this; exact this
  · obtain ⟨i, hi, hg⟩ := List.getElem_of_mem hm
    have hil : i < σ.del h.n.toNat := by
      have := List.length_take_le (σ.del h.n.toNat) σ.log; omega
    have hil2 : i < σ.log.length := by
      have : (σ.log.take (σ.del h.n.toNat)).length ≤ σ.log.length := by rw [List.length_take]; omega
      omega
    have e : (hapT σ h).log[i]? = some m := by
      rw [ht, List.getElem?_append_left hil2]
      rw [List.getElem_take] at hg
      rw [← hg]; exact List.getElem?_eq_getElem hil2
    have := hS'.ids e h1 hid.1 hid.2
    omega
end Go.Proofs.Ytfnchpjiebojiaa
