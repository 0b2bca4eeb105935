/-
  rostrumref12.Pool, plain: its list is the pool's pending messages, sorted.
-/
import Derived.Test.YtkkcdoajdhbofaaRefPool
import Derived.Test.YtkkcdoajdhbofaaPlainQ
namespace Go.Proofs.Ytkkcdoajdhbofaa

theorem insM_at (m : Ms) : ∀ (P : List Ms) (i : Nat), i ≤ P.length → (∀ j, (hj : j < P.length) → j < i → ltK P[j] m = true) → (∀ (h : i < P.length), ltK P[i] m = false) → insM m P = P.take i ++ m :: P.drop i
  | [], 0, _, _, _ => rfl
  | x :: t, 0, _, _, h2 => by
    have := h2 (by simp)
    unfold insM
    rw [show ltK x m = false from this]; rfl
  | x :: t, i + 1, hi, h1, h2 => by
    have h0 := h1 0 (by simp) (by omega)
    unfold insM
    rw [show ltK x m = true from h0]
    simp only [if_true, List.take_succ_cons, List.drop_succ_cons, List.cons_append]
    rw [insM_at m t i (by simpa using hi) (fun j hj hji => h1 (j + 1) (by simp; omega) (by omega)) (fun h => h2 (by simp; omega))]
theorem pend_add {σ : PSt} (hO : σ.Ok) {m : Ms} (hr : rightB m = true) (hh : hasP σ (keyM m) = false) (hl : ¬ 1000 ≤ σ.wt.length) : pend (addS σ m) = insM m (pend σ) := by
  have hk : kfind (keyM m) σ.wt = none := by
    unfold hasP at hh
    rw [Bool.or_eq_false_iff] at hh
    simpa using hh.1
  have ha : addS σ m = { σ with wt := kput (keyM m) m σ.wt } := by
    unfold addS; rw [if_pos hr, hh]; simp [hl]
  have hv : valsP (addS σ m) = valsP σ ++ [m] := by rw [ha]; unfold valsP; simp only; rw [kput_new hk]; simp
  have hne : ∀ y ∈ pend σ, keyM y ≠ keyM m := fun y hy e => by
    have := (kfind_val hO ((srtL_perm _).mem_iff.1 hy)).1
    rw [e, hk] at this; cases this
  refine srtL_eq ?_ (insM_rise hO.rise hne) (add_ok hO m).nodup
  rw [hv]
  exact ((insM_perm m _).trans ((srtL_perm _).cons m)).trans (List.perm_append_comm (l₁ := [m]))
theorem atI_none {l : List Ms} {k : Int × Int} (h : ∀ x ∈ l, keyM x ≠ k) : atI l k = -1 := by
  have : l.findIdx (keyB k) = l.length := by
    rw [List.findIdx_eq_length]
    intro x hx
    exact decide_eq_false (h x hx)
  unfold atI; rw [this, if_neg (by omega)]
theorem atI_some {l : List Ms} {k : Int × Int} {x : Ms} (hx : x ∈ l) (h : keyM x = k) : ∃ n, ∃ (hn : n < l.length), atI l k = n ∧ keyM l[n] = k := by
  have hlt : l.findIdx (keyB k) < l.length := by
    refine Classical.byContradiction fun hc => ?_
    have e : l.findIdx (keyB k) = l.length := by have := List.findIdx_le_length (p := keyB k) (xs := l); omega
    have := List.findIdx_eq_length.1 e x hx
    unfold keyB at this
    exact of_decide_eq_false this h
  refine ⟨_, hlt, by unfold atI; rw [if_pos hlt], ?_⟩
  exact of_decide_eq_true (List.findIdx_getElem (w := hlt))
theorem atI_has {σ : PSt} (hO : σ.Ok) (k : Int × Int) : decide (0 ≤ atI (pend σ) k) = (kfind k σ.wt).isSome := by
  cases hk : kfind k σ.wt with
  | none =>
    have : atI (pend σ) k = -1 := atI_none (fun x hx e => by
      have := (kfind_val hO ((srtL_perm _).mem_iff.1 hx)).1
      rw [e, hk] at this; cases this)
    rw [this]; rfl
  | some v =>
    have h1 := kfind_mem hk
    have h2 : v ∈ pend σ := (srtL_perm _).mem_iff.2 (List.mem_map_of_mem (f := (·.2)) h1)
    obtain ⟨n, -, e, -⟩ := atI_some h2 (hO.wt _ h1).1.symm
    rw [e]; simp
def cutA (l : List Ms) (a : Int) : List Ms := if 0 ≤ a then l.take a.toNat ++ l.drop (a.toNat + 1) else l
theorem pend_done1 {σ : PSt} (hO : σ.Ok) {m : Ms} (hb : isB σ (keyM m) = false) : pend (done1 σ m) = cutA (pend σ) (atI (pend σ) (keyM m)) := by
  have hd : done1 σ m = ⟨kdel (keyM m) σ.wt, kput (keyM m) () σ.dn⟩ := by unfold done1; rw [hb]; rfl
  cases hk : kfind (keyM m) σ.wt with
  | none =>
    have h1 : atI (pend σ) (keyM m) = -1 := atI_none (fun x hx e => by
      have := (kfind_val hO ((srtL_perm _).mem_iff.1 hx)).1
      rw [e, hk] at this; cases this)
    rw [h1, hd]
    unfold pend valsP
    simp only
    rw [kdel_none hk]; rfl
  | some v =>
    have h1 := kfind_mem hk
    have h2 : v ∈ pend σ := (srtL_perm _).mem_iff.2 (List.mem_map_of_mem (f := (·.2)) h1)
    have hvk : keyM v = keyM m := (hO.wt _ h1).1.symm
    obtain ⟨n, hn, e, hnk⟩ := atI_some h2 hvk
    have hv : (pend σ)[n] = v := by
      have := (kfind_val hO ((srtL_perm _).mem_iff.1 (List.getElem_mem hn))).1
      rw [hnk, hk] at this
      exact (Option.some.inj this).symm
    rw [e]
    unfold cutA
    rw [if_pos (by omega), Int.toNat_natCast]
    have hsplit : pend σ = (pend σ).take n ++ v :: (pend σ).drop (n + 1) := by
      conv => lhs; rw [← List.take_append_drop n (pend σ)]
      rw [List.drop_eq_getElem_cons hn, hv]
    have hp1 : (valsP σ).Perm (v :: ((pend σ).take n ++ (pend σ).drop (n + 1))) := by
      refine (srtL_perm (valsP σ)).symm.trans ?_
      show (pend σ).Perm _
      conv => lhs; rw [hsplit]
      exact List.perm_middle
    have hp2 : (valsP σ).Perm (v :: valsP (done1 σ m)) := by
      rw [hd]
      exact (kdel_perm hk).map (·.2)
    refine srtL_eq (List.Perm.cons_inv (hp1.symm.trans hp2)) ?_ (done1_ok hO m).nodup
    have hr := hO.rise
    rw [hsplit] at hr
    exact List.Pairwise.sublist (List.Sublist.append_left (List.sublist_cons_self ..) _) hr
end Go.Proofs.Ytkkcdoajdhbofaa
