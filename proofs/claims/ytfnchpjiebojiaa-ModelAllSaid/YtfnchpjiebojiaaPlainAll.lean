/-
  The model, plain: what was accepted can be delivered everywhere.
-/
import Derived.Test.YtfnchpjiebojiaaPlainM2
namespace Go.Proofs.Ytfnchpjiebojiaa
open Go.RowKit

/-- Behind the acceptances. -/
structure P1 (σ : MSt) (N : Nat) (A : List Ms) : Prop where
  ok : σ.Ok
  n : σ.n = N
  log : σ.log = []
  del : ∀ i, σ.del i = 0
  lg : ∀ i, σ.lg i = 0
  acc : ∀ i : Nat, σ.acc i = (cnt (i : Int) A : Int)
  fnd : ∀ m ∈ A, kfind (m.f, m.c) σ.wt = some m
  sq : ∀ (i : Nat) (m : Ms), A[i]? = some m → m.c = (cnt m.f (A.take i) : Int) + 1 ∧ 0 ≤ m.f ∧ m.f < N
theorem p1_zero {N : Nat} (h1 : 1 ≤ N) (h16 : N ≤ 16) : P1 (st0 N) N [] := ⟨st0_ok h1 h16, rfl, rfl, fun _ => rfl, fun _ => rfl, fun _ => rfl, by simp, by simp⟩
theorem cnt_take_le (f : Int) (A : List Ms) (i : Nat) : cnt f (A.take i) ≤ cnt f A := by
  have h := List.take_append_drop i A
  have := congrArg (cnt f) h
  rw [cnt_append] at this
  omega
theorem cnt_len (f : Int) (A : List Ms) : cnt f A ≤ A.length := List.length_filter_le _ _
theorem take_one_more {A : List Ms} {i : Nat} {m : Ms} (h : A[i]? = some m) : A.take (i + 1) = A.take i ++ [m] := by
  obtain ⟨hl, hg⟩ := List.getElem?_eq_some_iff.1 h
  rw [List.take_succ_eq_append_getElem hl, hg]
theorem sq_le {σ : MSt} {N : Nat} {A : List Ms} (h : P1 σ N A) {m : Ms} (hm : m ∈ A) : m.c ≤ (cnt m.f A : Int) := by
  obtain ⟨i, hi⟩ := List.mem_iff_getElem?.1 hm
  have h1 := (h.sq i m hi).1
  have h2 := cnt_take_le m.f A (i + 1)
  rw [take_one_more hi, cnt_append, cnt_one, if_pos rfl] at h2
  omega
theorem p1_step {σ : MSt} {N : Nat} {A : List Ms} (h : P1 σ N A) (hA : A.length ≤ 1000000) {fr : Nat} (hf : fr < N) :
    hapB σ ⟨1, fr, ⟨fr, (cnt (fr : Int) A : Int) + 1, ⟨#[]⟩⟩⟩ = true ∧ P1 (hapT σ ⟨1, fr, ⟨fr, (cnt (fr : Int) A : Int) + 1, ⟨#[]⟩⟩⟩) N (A ++ [⟨fr, (cnt (fr : Int) A : Int) + 1, ⟨#[]⟩⟩]) := by
  obtain ⟨m, hm⟩ : ∃ m : Ms, ⟨fr, (cnt (fr : Int) A : Int) + 1, ⟨#[]⟩⟩ = m := ⟨_, rfl⟩
  have hmf : m.f = fr := by rw [← hm]
  have hmc : m.c = (cnt (fr : Int) A : Int) + 1 := by rw [← hm]
  rw [hm]
  have h16 : N ≤ 16 := by have := h.ok.n16; rw [h.n] at this; exact this
  have hB : hapB σ ⟨1, fr, m⟩ = true := by
    unfold hapB hapR acceptB rightB
    have := cnt_len (fr : Int) A
    have hd : m.d.size = 0 := by rw [← hm]; rfl
    have ha := h.acc fr
    simp only [if_true, Int.toNat_natCast, Bool.and_eq_true, decide_eq_true_eq, hmf, hmc, hd, h.n, ha]
    refine ⟨⟨by omega, by omega⟩, ⟨by omega, by omega, by omega, by omega, by omega⟩, trivial, trivial⟩
  refine ⟨hB, ?_⟩
  have hT : hapT σ ⟨1, fr, m⟩ = acceptS σ fr m := by unfold hapT hapS; rw [if_pos hB, if_pos rfl]; rfl
  have hok := hap_ok (h := ⟨1, fr, m⟩) h.ok
  rw [hT] at hok ⊢
  refine ⟨hok, h.n, h.log, h.del, h.lg, fun i => ?_, fun x hx => ?_, fun i x hx => ?_⟩
  · simp only [acceptS, updI]
    rw [cnt_append, cnt_one, hmf]
    by_cases e : i = fr
    · subst e; rw [if_pos rfl, if_pos rfl, h.acc i]; push_cast; rfl
    · rw [if_neg e, if_neg (by omega), h.acc i]; simp
  · simp only [acceptS]
    rcases List.mem_append.1 hx with hx | hx
    · rw [kfind_put_other _ _ (fun e => by
        injection e with e1 e2
        have := sq_le h hx
        rw [e1, hmf] at this
        omega)]
      exact h.fnd x hx
    · simp only [List.mem_singleton] at hx
      subst hx
      exact kfind_put_self _ _ _
  · by_cases hi : i < A.length
    · rw [List.getElem?_append_left hi] at hx
      rw [List.take_append_of_le_length (by omega)]
      exact h.sq i x hx
    · have hi2 := (List.getElem?_eq_some_iff.1 hx).1
      simp only [List.length_append, List.length_singleton] at hi2
      have : i = A.length := by omega
      subst this
      rw [List.getElem?_append_right (by omega)] at hx
      simp only [Nat.sub_self, List.getElem?_cons_zero, Option.some.injEq] at hx
      subst hx
      rw [List.take_append_of_le_length (by omega), List.take_length, hmf]
      exact ⟨hmc, by omega, by omega⟩
/-- Behind i deliveries at node nd, and all ahead of it. -/
structure P2 (σ : MSt) (N : Nat) (A : List Ms) (nd i : Nat) : Prop where
  ok : σ.Ok
  n : σ.n = N
  log : σ.log = if nd = 0 then A.take i else A
  del : ∀ j, σ.del j = if j < nd then A.length else if j = nd then i else 0
  lg : ∀ f : Int, 0 ≤ f → f < N → σ.lg f.toNat = (cnt f σ.log : Int)
  fnd : nd = 0 → ∀ (j : Nat) (m : Ms), i ≤ j → A[j]? = some m → kfind (m.f, m.c) σ.wt = some m
  sq : ∀ (i : Nat) (m : Ms), A[i]? = some m → m.c = (cnt m.f (A.take i) : Int) + 1 ∧ 0 ≤ m.f ∧ m.f < N
theorem p2_of_p1 {σ : MSt} {N : Nat} {A : List Ms} (h : P1 σ N A) : P2 σ N A 0 0 :=
  ⟨h.ok, h.n, by rw [h.log]; simp, fun j => by rw [h.del]; simp, fun f _ _ => by rw [h.lg, h.log]; rfl, fun _ j m _ hm => h.fnd m (List.mem_of_getElem? hm), h.sq⟩
theorem p2_step {σ : MSt} {N : Nat} {A : List Ms} {nd i : Nat} (h : P2 σ N A nd i) (hnd : nd < N) {m : Ms} (hm : A[i]? = some m) :
    hapB σ ⟨3, nd, m⟩ = true ∧ P2 (hapT σ ⟨3, nd, m⟩) N A nd (i + 1) := by
  have hil := (List.getElem?_eq_some_iff.1 hm).1
  have hdel : σ.del nd = i := by rw [h.del, if_neg (Nat.lt_irrefl _), if_pos rfl]
  obtain ⟨s1, s2, s3⟩ := h.sq i m hm
  have key : hapB σ ⟨3, nd, m⟩ = deliverB σ nd m := by
    unfold hapB hapR
    simp only [Int.toNat_natCast, h.n]
    have e1 : decide (0 ≤ (nd : Int)) = true := by simp
    have e2 : decide ((nd : Int) < (N : Int)) = true := by simp; exact hnd
    rw [e1, e2]
    rfl
  by_cases h0 : nd = 0
  · subst h0
    have hlog : σ.log = A.take i := by rw [h.log, if_pos rfl]
    have hlen : σ.log.length = i := by rw [hlog, List.length_take]; omega
    have hlb : layB σ m = true := by
      unfold layB
      rw [h.fnd rfl i m (Nat.le_refl _) hm, h.lg m.f s2 s3, hlog]
      simp [s1]
    have hB : deliverB σ 0 m = true := by unfold deliverB; rw [if_pos (by rw [hdel, hlen])]; exact hlb
    refine ⟨key.trans hB, ?_⟩
    have hT : hapT σ ⟨3, (0 : Nat), m⟩ = delS (layS σ m) 0 := by
      unfold hapT hapS
      rw [if_pos (key.trans hB), if_neg (show ¬ (3 : Int) = 1 by decide), if_pos rfl]
      unfold deliverS
      rw [if_pos (by show σ.del 0 = _; rw [hdel, hlen])]
      rfl
    have hok := hap_ok (h := ⟨3, (0 : Nat), m⟩) h.ok
    rw [hT] at hok ⊢
    refine ⟨hok, h.n, ?_, fun j => ?_, fun f f0 f1 => ?_, fun _ j x hj hx => ?_, h.sq⟩
    · simp only [delS, layS, if_true]; rw [hlog, take_one_more hm]
    · simp only [delS, layS, updI]
      by_cases e : j = 0
      · subst e; rw [if_pos rfl, hdel]; simp
      · rw [if_neg e, h.del, if_neg (by omega), if_neg e, if_neg (by omega), if_neg e]
    · simp only [delS, layS, updI]
      rw [cnt_append, cnt_one]
      by_cases e : f = m.f
      · subst e; rw [if_pos rfl, if_pos rfl, h.lg _ s2 s3]; push_cast; rfl
      · rw [if_neg (by omega), if_neg (Ne.symm e), h.lg f f0 f1]; simp
    · simp only [delS, layS]
      have hxi := h.sq j x hx
      rw [kfind_del_other (fun e => by
        injection e with e1 e2
        have h3 := cnt_take_le m.f (A.take j) (i + 1)
        rw [List.take_take, Nat.min_eq_left (by omega), take_one_more hm, cnt_append, cnt_one, if_pos rfl] at h3
        have h4 := hxi.1
        rw [e1, e2] at h4
        omega)]
      exact h.fnd rfl j x (by omega) hx
  · have hlog : σ.log = A := by rw [h.log, if_neg h0]
    have hB : deliverB σ nd m = true := by
      unfold deliverB
      rw [if_neg (by rw [hdel, hlog]; omega), hdel, hlog, hm]
      simp
    refine ⟨key.trans hB, ?_⟩
    have hT : hapT σ ⟨3, nd, m⟩ = delS σ nd := by
      unfold hapT hapS
      rw [if_pos (key.trans hB), if_neg (show ¬ (3 : Int) = 1 by decide), if_pos rfl]
      unfold deliverS
      simp only [Int.toNat_natCast]
      rw [if_neg (by rw [hdel, hlog]; omega)]
    have hok := hap_ok (h := ⟨3, nd, m⟩) h.ok
    rw [hT] at hok ⊢
    refine ⟨hok, h.n, ?_, fun j => ?_, h.lg, fun e => absurd e h0, h.sq⟩
    · simp only [delS]; rw [if_neg h0]; exact hlog
    · simp only [delS, updI]
      by_cases e : j = nd
      · subst e; rw [if_pos rfl, hdel, if_neg (Nat.lt_irrefl _), if_pos rfl]
      · rw [if_neg e, h.del, if_neg e, if_neg e]
theorem p2_next {σ : MSt} {N : Nat} {A : List Ms} {nd : Nat} (h : P2 σ N A nd A.length) : P2 σ N A (nd + 1) 0 := by
  refine ⟨h.ok, h.n, ?_, fun j => ?_, h.lg, fun e => by omega, h.sq⟩
  · rw [h.log, if_neg (Nat.succ_ne_zero nd)]; split
    · exact List.take_length
    · rfl
  · rw [h.del]
    by_cases h1 : j < nd
    · rw [if_pos h1, if_pos (by omega)]
    · rw [if_neg h1]
      by_cases h2 : j = nd
      · rw [if_pos h2, if_pos (by omega)]
      · rw [if_neg h2, if_neg (by omega)]
        split <;> rfl
theorem p2_end {σ : MSt} {N : Nat} {A : List Ms} (h : P2 σ N A N 0) (h1 : 1 ≤ N) : σ.log = A ∧ ∀ j, j < N → σ.del j = A.length :=
  ⟨by rw [h.log, if_neg (by omega)], fun j hj => by rw [h.del, if_pos hj]⟩
end Go.Proofs.Ytfnchpjiebojiaa
