/-
  The reference's model, plain, and that it answers as the model does.
-/
import Derived.Test.YtfnchpjiebojiaaPlainM2
namespace Go.Proofs.Ytfnchpjiebojiaa
open Go.RowKit

structure RSt where
  n : Nat
  A : List Ms
  L : List Ms
  D : Nat → Nat
def refR (ρ : RSt) (h : Hp) : Bool :=
  if h.k = 2 then true
  else if h.k = 1 then rightB h.m && (decide (h.m.f = h.n) && decide (h.m.c = (countF ρ.A h.n : Int) + 1))
  else if h.k = 3 then (if ρ.D h.n.toNat = ρ.L.length then decide (h.m ∈ ρ.A) && decide (h.m.c = (countF ρ.L h.m.f : Int) + 1) else decide (ρ.L[ρ.D h.n.toNat]? = some h.m))
  else false
def refB (ρ : RSt) (h : Hp) : Bool := (decide (0 ≤ h.n) && decide (h.n < ρ.n)) && refR ρ h
def refS (ρ : RSt) (h : Hp) : RSt :=
  if h.k = 1 then { ρ with A := ρ.A ++ [h.m] }
  else if h.k = 3 then { ρ with L := if ρ.D h.n.toNat = ρ.L.length then ρ.L ++ [h.m] else ρ.L, D := updI ρ.D h.n.toNat (ρ.D h.n.toNat + 1) }
  else ρ
def refT (ρ : RSt) (h : Hp) : RSt := if refB ρ h then refS ρ h else ρ
def ref0 (n : Nat) : RSt := ⟨n, [], [], fun _ => 0⟩
structure Rel (σ : MSt) (ρ : RSt) : Prop where
  ok : σ.Ok
  sq : Sq σ
  n : ρ.n = σ.n
  L : ρ.L = σ.log
  D : ρ.D = σ.del
  acc : ∀ i : Nat, σ.acc i = (countF ρ.A (i : Int) : Int)
  wt : ∀ m : Ms, kfind (m.f, m.c) σ.wt = some m ↔ (m ∈ ρ.A ∧ (cnt m.f σ.log : Int) < m.c)
  key : ∀ f c (m : Ms), kfind (f, c) σ.wt = some m → m.f = f ∧ m.c = c
  ac : ∀ m ∈ ρ.A, m.c ≤ σ.acc m.f.toNat ∧ 0 ≤ m.f
  lgA : ∀ f : Int, 0 ≤ f → (cnt f σ.log : Int) ≤ σ.acc f.toNat
theorem cnt_countF (f : Int) (l : List Ms) : countF l f = cnt f l := by
  unfold countF cnt
  congr 1
theorem rel0 {n : Nat} (h1 : 1 ≤ n) (h16 : n ≤ 16) : Rel (st0 n) (ref0 n) :=
  ⟨st0_ok h1 h16, sq0 n, rfl, rfl, rfl, fun _ => rfl, fun m => by simp [st0, ref0, kfind], fun f c m h => by simp [st0, kfind] at h, by simp [ref0], fun f _ => by simp [st0, cnt]⟩
theorem rel_B {σ : MSt} {ρ : RSt} (h : Rel σ ρ) (x : Hp) : refB ρ x = hapB σ x := by
  unfold refB hapB
  rw [h.n]
  by_cases hn : (decide (0 ≤ x.n) && decide (x.n < σ.n)) = true
  · rw [hn, Bool.true_and, Bool.true_and]
    simp only [Bool.and_eq_true, decide_eq_true_eq] at hn
    unfold refR hapR
    by_cases h1 : x.k = 1
    · rw [if_neg (by omega), if_pos h1, if_pos h1]
      unfold acceptB
      have e1 : (x.n.toNat : Int) = x.n := by omega
      rw [h.acc x.n.toNat, e1]
    · by_cases h2 : x.k = 2
      · rw [if_pos h2, if_neg h1, if_pos h2]
      · rw [if_neg h2, if_neg h1, if_neg h1, if_neg h2]
        by_cases h3 : x.k = 3
        · rw [if_pos h3, if_pos h3]
          unfold deliverB
          rw [h.D, h.L]
          by_cases hq : σ.del x.n.toNat = σ.log.length
          · rw [if_pos hq, if_pos hq]
            unfold layB
            rw [cnt_countF, Bool.eq_iff_iff]
            simp only [Bool.and_eq_true, decide_eq_true_eq]
            constructor
            · rintro ⟨q1, q2⟩
              have hk := (h.wt x.m).2 ⟨q1, by omega⟩
              have hr := h.ok.wt _ (kfind_mem hk)
              have hr2 := hr.2
              simp only [rightB, decide_eq_true_eq] at hr2
              exact ⟨hk, by rw [h.sq.lg _ hr2.1 hr2.2.1]; exact q2⟩
            · rintro ⟨q1, q2⟩
              have hr := h.ok.wt _ (kfind_mem q1)
              have hr2 := hr.2
              simp only [rightB, decide_eq_true_eq] at hr2
              rw [h.sq.lg _ hr2.1 hr2.2.1] at q2
              exact ⟨((h.wt x.m).1 q1).1, q2⟩
          · rw [if_neg hq, if_neg hq]
        · rw [if_neg h3, if_neg h3]
  · have : (decide (0 ≤ x.n) && decide (x.n < σ.n)) = false := by simpa using hn
    rw [this]; rfl
theorem rel_T {σ : MSt} {ρ : RSt} (h : Rel σ ρ) (x : Hp) : Rel (hapT σ x) (refT ρ x) := by
  have hB := rel_B h x
  have hok := hap_ok (h := x) h.ok
  have hsq := hap_sq (h := x) h.ok h.sq
  by_cases hb : hapB σ x = true
  · have eT : hapT σ x = hapS σ x := by unfold hapT; rw [if_pos hb]
    have eR : refT ρ x = refS ρ x := by unfold refT; rw [hB, if_pos hb]
    rw [eT] at hok hsq ⊢
    rw [eR]
    have hbb := hb
    unfold hapB hapR at hb
    simp only [Bool.and_eq_true, decide_eq_true_eq] at hb
    obtain ⟨⟨n0, n1⟩, hr⟩ := hb
    by_cases h1 : x.k = 1
    · rw [if_pos h1] at hr
      have e1 : hapS σ x = acceptS σ x.n.toNat x.m := by unfold hapS; rw [if_pos h1]
      have e2 : refS ρ x = { ρ with A := ρ.A ++ [x.m] } := by unfold refS; rw [if_pos h1]
      rw [e1] at hok hsq ⊢
      rw [e2]
      unfold acceptB at hr
      simp only [Bool.and_eq_true, decide_eq_true_eq] at hr
      obtain ⟨hri, hf, hc⟩ := hr
      have hfn : x.m.f.toNat = x.n.toNat := by omega
      have hrr := hri
      simp only [rightB, decide_eq_true_eq] at hrr
      refine ⟨hok, hsq, h.n, h.L, h.D, fun i => ?_, fun m => ?_, fun f c m hm => ?_, fun m hm => ?_, fun f f0 => ?_⟩
      · simp only [acceptS, updI]
        rw [countF_snoc]
        by_cases e : i = x.n.toNat
        · subst e
          have e3 : (x.m.f == ((x.n.toNat : Nat) : Int)) = true := by simp; omega
          rw [if_pos rfl, e3, if_pos rfl, h.acc]; push_cast; rfl
        · have e3 : (x.m.f == (i : Int)) = false := by simp; omega
          rw [if_neg e, e3, h.acc]; simp
      · simp only [acceptS]
        by_cases e : (m.f, m.c) = (x.m.f, x.m.c)
        · rw [e, kfind_put_self]
          injection e with e3 e4
          constructor
          · intro hh
            injection hh with hh
            subst hh
            refine ⟨by simp, ?_⟩
            have := h.lgA x.m.f hrr.1
            rw [hfn] at this
            omega
          · rintro ⟨q1, q2⟩
            rcases List.mem_append.1 q1 with q1 | q1
            · have := (h.ac m q1).1
              rw [e3, hfn] at this
              omega
            · simp only [List.mem_singleton] at q1
              rw [q1]
        · rw [kfind_put_other _ _ e, h.wt m]
          constructor
          · rintro ⟨q1, q2⟩; exact ⟨List.mem_append_left _ q1, q2⟩
          · rintro ⟨q1, q2⟩
            rcases List.mem_append.1 q1 with q1 | q1
            · exact ⟨q1, q2⟩
            · simp only [List.mem_singleton] at q1
              exact absurd (by rw [q1]) e
      · simp only [acceptS] at hm
        by_cases e : (f, c) = (x.m.f, x.m.c)
        · rw [e, kfind_put_self] at hm
          injection hm with hm
          subst hm
          injection e with e3 e4
          exact ⟨e3.symm, e4.symm⟩
        · rw [kfind_put_other _ _ e] at hm
          exact h.key f c m hm
      · simp only [acceptS, updI]
        rcases List.mem_append.1 hm with hm | hm
        · have := h.ac m hm
          refine ⟨?_, this.2⟩
          split
          · rename_i e; rw [e] at this; omega
          · exact this.1
        · simp only [List.mem_singleton] at hm
          subst hm
          rw [if_pos hfn]
          exact ⟨by omega, hrr.1⟩
      · simp only [acceptS, updI]
        have := h.lgA f f0
        split
        · rename_i e; rw [e] at this; omega
        · exact this
    · by_cases h3 : x.k = 3
      · rw [if_neg h1, if_neg (by omega), if_pos h3] at hr
        have e1 : hapS σ x = deliverS σ x.n.toNat x.m := by unfold hapS; rw [if_neg h1, if_pos h3]
        have e2 : refS ρ x = { ρ with L := if ρ.D x.n.toNat = ρ.L.length then ρ.L ++ [x.m] else ρ.L, D := updI ρ.D x.n.toNat (ρ.D x.n.toNat + 1) } := by unfold refS; rw [if_neg h1, if_pos h3]
        rw [e1] at hok hsq ⊢
        rw [e2]
        unfold deliverB at hr
        by_cases hq : σ.del x.n.toNat = σ.log.length
        · rw [if_pos hq] at hr
          have e3 : deliverS σ x.n.toNat x.m = delS (layS σ x.m) x.n.toNat := by unfold deliverS; rw [if_pos hq]
          rw [e3] at hok hsq ⊢
          unfold layB at hr
          simp only [Bool.and_eq_true, decide_eq_true_eq] at hr
          obtain ⟨hk, hc⟩ := hr
          have hrr := (h.ok.wt _ (kfind_mem hk)).2
          simp only [rightB, decide_eq_true_eq] at hrr
          have hlg := h.sq.lg x.m.f hrr.1 hrr.2.1
          obtain ⟨ha, hb2⟩ := (h.wt x.m).1 hk
          refine ⟨hok, hsq, h.n, ?_, ?_, h.acc, fun m => ?_, fun f c m hm => ?_, h.ac, fun f f0 => ?_⟩
          · simp only [delS, layS]; rw [h.D, h.L, if_pos hq]
          · simp only [delS, layS]; rw [h.D]
          · simp only [delS, layS]
            rw [cnt_append, cnt_one]
            by_cases e : (m.f, m.c) = (x.m.f, x.m.c)
            · rw [e, kfind_del_self h.ok.keys]
              injection e with e4 e5
              constructor
              · intro hh; cases hh
              · rintro ⟨_, q2⟩
                rw [e4, if_pos rfl] at q2
                omega
            · rw [kfind_del_other e, h.wt m]
              constructor
              · rintro ⟨q1, q2⟩
                refine ⟨q1, ?_⟩
                by_cases e6 : x.m.f = m.f
                · have : m.c ≠ x.m.c := fun e7 => e (by rw [e6, e7])
                  rw [if_pos e6]
                  rw [← e6] at q2 ⊢
                  push_cast
                  omega
                · rw [if_neg e6]; simpa using q2
              · rintro ⟨q1, q2⟩
                refine ⟨q1, ?_⟩
                push_cast at q2
                split at q2 <;> omega
          · simp only [delS, layS] at hm
            by_cases e : (f, c) = (x.m.f, x.m.c)
            · rw [e, kfind_del_self h.ok.keys] at hm; cases hm
            · rw [kfind_del_other e] at hm; exact h.key f c m hm
          · simp only [delS, layS]
            rw [cnt_append, cnt_one]
            have h5 := h.lgA f f0
            by_cases e : x.m.f = f
            · rw [if_pos e]
              have h6 := (h.ac x.m ha).1
              subst e
              push_cast
              omega
            · rw [if_neg e]; simpa using h5
        · have e3 : deliverS σ x.n.toNat x.m = delS σ x.n.toNat := by unfold deliverS; rw [if_neg hq]
          rw [e3] at hok hsq ⊢
          refine ⟨hok, hsq, h.n, ?_, ?_, h.acc, h.wt, h.key, h.ac, h.lgA⟩
          · simp only [delS]; rw [h.D, h.L, if_neg hq]
          · simp only [delS]; rw [h.D]
      · have e1 : hapS σ x = σ := by unfold hapS; rw [if_neg h1, if_neg h3]
        have e2 : refS ρ x = ρ := by unfold refS; rw [if_neg h1, if_neg h3]
        rw [e1, e2]; exact h
  · have eT : hapT σ x = σ := by unfold hapT; rw [if_neg hb]
    have eR : refT ρ x = ρ := by unfold refT; rw [hB, if_neg hb]
    rw [eT, eR]; exact h
end Go.Proofs.Ytfnchpjiebojiaa
