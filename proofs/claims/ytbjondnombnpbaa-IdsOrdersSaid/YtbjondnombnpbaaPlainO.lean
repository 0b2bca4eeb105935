/-
  The book, plain: the log in order; in whatever order messages come, the same are taken and the same wait.
-/
import Derived.Test.YtbjondnombnpbaaPlainB3
namespace Go.Proofs.Ytbjondnombnpbaa
open Go.RowKit

/-- Each origin's messages stand in the order of their Counts, without a gap. -/
def OrdL (l : List Ms) : Prop := ∀ i (h : i < l.length), 0 ≤ l[i].f ∧ l[i].f < 16 ∧ l[i].c = (countF (l.take i) l[i].f : Int) + 1
theorem ordL_nil : OrdL [] := fun i h => by simp at h
theorem ordL_take {σ : BSt} (h : Bq σ) (hl : OrdL σ.log) (m : Ms) : OrdL (takeS σ m).log := by
  unfold takeS
  by_cases hr : rightB m = true
  · rw [if_pos hr]
    by_cases hn : isNext σ m = true
    · rw [if_pos hn]
      simp only
      have hm := rightB_iff.1 hr
      have hc : m.c = σ.tk m.f.toNat + 1 := by simpa [isNext] using hn
      have hct := h.cnt m.f hm.1 hm.2.1
      obtain ⟨r1, r2, -⟩ := rowL_at h.ok hr
      have hf := row_f h.ok hr
      intro i hi
      by_cases hlt : i < σ.log.length
      · simp only [List.getElem_append_left hlt, List.take_append_of_le_length (Nat.le_of_lt hlt)]
        exact hl i hlt
      · have hj : i - σ.log.length < (rowL σ.wt m).length := by simp at hi; omega
        obtain ⟨q1, q2, -⟩ := r2 (i - σ.log.length) _ (List.getElem?_eq_getElem hj)
        rw [List.getElem_append_right (by omega)]
        rw [q1, List.take_append, List.take_of_length_le (by omega : σ.log.length ≤ i), countF_append, countF_all (fun y hy => (hf y (List.mem_of_mem_take hy)).1), List.length_take, q2]
        refine ⟨hm.1, hm.2.1, ?_⟩
        rw [Nat.min_eq_left (by omega)]
        push_cast
        omega
    · rw [if_neg hn]
      unfold waitS
      split <;> exact hl
  · rw [if_neg hr]; exact hl
theorem stB_ord (l : List Ms) : ∀ k, OrdL (stB l k).log
  | 0 => by rw [stB_zero]; exact ordL_nil
  | k + 1 => by
    by_cases hk : k < l.length
    · rw [stB_succ l hk]; exact ordL_take (stB_q l k).1 (stB_ord l k) _
    · have : stB l (k + 1) = stB l k := by unfold stB; rw [List.take_of_length_le (by omega), List.take_of_length_le (by omega)]
      rw [this]; exact stB_ord l k

def keyM (m : Ms) : Int × Int := (m.f, m.c)
/-! ### in whatever order -/
theorem countF_mono (l : List Ms) (i : Nat) (f : Int) : countF (l.take i) f ≤ countF l f := by
  have h := countF_append (l.take i) (l.drop i) f
  rw [List.take_append_drop] at h; omega
/-- What the log says of an id. -/
theorem log_count {l : List Ms} (h : OrdL l) {m : Ms} (hm : m ∈ l) : 0 ≤ m.f ∧ m.f < 16 ∧ 1 ≤ m.c ∧ m.c ≤ countF l m.f := by
  obtain ⟨i, hi, rfl⟩ := List.getElem_of_mem hm
  obtain ⟨h1, h2, h3⟩ := h i hi
  have h4 := countF_append (l.take (i + 1)) (l.drop (i + 1)) l[i].f
  rw [List.take_append_drop] at h4
  rw [List.take_succ_eq_append_getElem hi, countF_append] at h4
  have : countF [l[i]] l[i].f = 1 := by simp [countF]
  exact ⟨h1, h2, by omega, by omega⟩
theorem log_find {f : Int} : ∀ (n : Nat) {l : List Ms}, l.length = n → OrdL l → ∀ {c : Int}, 1 ≤ c → c ≤ countF l f → ∃ m ∈ l, m.f = f ∧ m.c = c
  | 0, l, hn, h, c, h1, h2 => by
    have : l = [] := List.eq_nil_of_length_eq_zero hn
    subst this; simp [countF] at h2; omega
  | n + 1, l, hn, h, c, h1, h2 => by
    have hne : l ≠ [] := by intro e; subst e; simp at hn
    have hl : l = l.take n ++ [l[n]] := by
      have := List.take_succ_eq_append_getElem (l := l) (i := n) (by omega)
      rwa [show n + 1 = l.length from hn.symm, List.take_length] at this
    have ht : OrdL (l.take n) := fun i hi => by
      have hi' : i < n := by rw [List.length_take] at hi; omega
      have := h i (by omega)
      simp only [List.getElem_take, List.take_take, Nat.min_eq_left (Nat.le_of_lt hi')]
      exact this
    have hc := countF_append (l.take n) [l[n]] f
    rw [← hl] at hc
    have hlast := h n (by omega)
    by_cases e : l[n].f = f
    · have h5 : countF [l[n]] f = 1 := by simp [countF, e]
      by_cases hcc : c ≤ countF (l.take n) f
      · obtain ⟨m, hm, q⟩ := log_find n (by rw [List.length_take]; omega) ht h1 hcc
        exact ⟨m, List.mem_of_mem_take hm, q⟩
      · refine ⟨l[n], List.getElem_mem (by omega), e, ?_⟩
        rw [hlast.2.2, e]; omega
    · have h5 : countF [l[n]] f = 0 := by simp [countF, e]
      obtain ⟨m, hm, q⟩ := log_find (f := f) n (l := l.take n) (by rw [List.length_take]; omega) ht h1 (c := c) (by omega)
      exact ⟨m, List.mem_of_mem_take hm, q⟩

/-- A book that took the right ones of l, each id once. -/
structure Took (σ : BSt) (l : List Ms) : Prop where
  q : Bq σ
  ord : OrdL σ.log
  all : (σ.log ++ σ.wt.map (·.2)).Perm (l.filter rightB)
theorem kdel_perm {K V : Type} [DecidableEq K] {k : K} {v : V} {kv : List (K × V)} (h : kfind k kv = some v) : kv.Perm ((k, v) :: kdel k kv) := by
  induction kv with
  | nil => simp [kfind] at h
  | cons p r ih =>
    unfold kfind at h; unfold kdel
    by_cases hp : p.1 = k
    · rw [if_pos hp] at h ⊢
      injection h with h
      obtain ⟨a, b⟩ := p
      simp only at hp h
      subst hp; subst h
      exact List.Perm.refl _
    · rw [if_neg hp] at h ⊢
      exact ((ih h).cons p).trans (List.Perm.swap ..)
theorem kput_perm {K V : Type} [DecidableEq K] {k : K} {v : V} {kv : List (K × V)} (h : kfind k kv = none) : kput k v kv = kv ++ [(k, v)] := by
  induction kv with
  | nil => rfl
  | cons p r ih =>
    unfold kfind at h; unfold kput
    by_cases hp : p.1 = k
    · rw [if_pos hp] at h; cases h
    · rw [if_neg hp] at h ⊢; rw [ih h]; rfl
theorem kdel_none {K V : Type} [DecidableEq K] {k : K} {kv : List (K × V)} (h : kfind k kv = none) : kdel k kv = kv := by
  induction kv with
  | nil => rfl
  | cons p r ih =>
    unfold kfind at h; unfold kdel
    by_cases hp : p.1 = k
    · rw [if_pos hp] at h; cases h
    · rw [if_neg hp] at h ⊢; rw [ih h]
/-- What waits, and the rest of the row, behind k+1 of the row. -/
theorem eat_perm {σ : BSt} (hO : σ.Ok) {x : Ms} (hx : rightB x = true) (h0 : kfind (x.f, x.c) σ.wt = none) : ∀ k, k < (rowL σ.wt x).length → ((rowL σ.wt x).take (k + 1) ++ (eatN σ ((rowL σ.wt x).take (k + 1))).wt.map (·.2)).Perm (x :: σ.wt.map (·.2))
  | 0, hk => by
    obtain ⟨r1, -, -⟩ := rowL_at hO hx
    have e : (rowL σ.wt x)[0] = x := by rw [List.getElem?_eq_getElem hk] at r1; injection r1
    rw [List.take_succ_eq_append_getElem hk, e]
    simp only [List.take_zero, List.nil_append, eatN, List.foldl_cons, List.foldl_nil, eatS, kdel_none h0]
    exact List.Perm.refl _
  | k + 1, hk => by
    have ih := eat_perm hO hx h0 k (by omega)
    obtain ⟨r1, r2, r3⟩ := rowL_at hO hx
    have hl := row_left hO hx k (by omega)
    rw [List.getElem?_eq_getElem hk] at hl
    obtain ⟨q1, q2, -⟩ := r2 (k + 1) _ (List.getElem?_eq_getElem hk)
    rw [List.take_succ_eq_append_getElem hk, eatN_snoc]
    refine List.Perm.trans ?_ ih
    simp only [eatS]
    rw [q1, q2, show x.c + ((k + 1 : Nat) : Int) = x.c + k + 1 from by push_cast; omega]
    have hp := (kdel_perm hl).map (·.2)
    rw [List.append_assoc]
    exact (hp.symm.append_left _)
theorem took_step {σ : BSt} {l : List Ms} (h : Took σ l) {m : Ms} (hd : ∀ y ∈ l, keyM y ≠ keyM m) : Took (takeS σ m) (l ++ [m]) := by
  have hk : ∀ y ∈ σ.log ++ σ.wt.map (·.2), keyM y ≠ keyM m := fun y hy => hd y ((List.mem_filter.1 (h.all.mem_iff.1 hy)).1)
  refine ⟨take_q h.q m, ordL_take h.q h.ord m, ?_⟩
  rw [List.filter_append]
  unfold takeS
  by_cases hr : rightB m = true
  · have hm := rightB_iff.1 hr
    rw [if_pos hr, List.filter_cons_of_pos hr, List.filter_nil]
    have hkf : kfind (m.f, m.c) σ.wt = none := by
      rw [kfind_none]
      intro hin
      obtain ⟨p, hp, he⟩ := List.mem_map.1 hin
      have := (h.q.ok.wt p hp).1
      exact hk p.2 (List.mem_append_right _ (List.mem_map_of_mem hp)) (by unfold keyM; rw [← he, this])
    by_cases hn : isNext σ m = true
    · rw [if_pos hn]
      simp only
      have h0 := row_pos h.q.ok hr
      have := eat_perm h.q.ok hr hkf ((rowL σ.wt m).length - 1) (by omega)
      rw [show (rowL σ.wt m).length - 1 + 1 = (rowL σ.wt m).length from by omega, List.take_length] at this
      rw [List.append_assoc]
      refine (this.append_left _).trans ?_
      exact (List.perm_middle.trans (h.all.cons m)).trans (List.perm_append_singleton m _).symm
    · rw [if_neg hn]
      have hb : hasB σ m.f m.c = false := by
        unfold hasB
        rw [hkf]
        simp
        intro _ _ _
        refine Classical.byContradiction fun hc => ?_
        have hct := h.q.cnt m.f hm.1 hm.2.1
        obtain ⟨y, hy, y1, y2⟩ := log_find (f := m.f) _ rfl h.ord hm.2.2.1 (by omega)
        exact hk y (List.mem_append_left _ hy) (by unfold keyM; rw [y1, y2])
      unfold waitS
      rw [hb]
      simp only [Bool.false_eq_true, if_false]
      rw [kput_perm hkf, List.map_append, ← List.append_assoc]
      exact h.all.append_right _
  · rw [if_neg hr, List.filter_cons_of_neg hr, List.filter_nil, List.append_nil]
    exact h.all
theorem took_zero : Took b0 [] := ⟨b0_q, ordL_nil, by simp [b0]⟩
theorem took_all (l : List Ms) (hn : (l.map keyM).Nodup) : ∀ k, k ≤ l.length → Took (stB l k) (l.take k)
  | 0, _ => by rw [stB_zero]; exact took_zero
  | k + 1, hk => by
    have ih := took_all l hn k (by omega)
    rw [stB_succ l hk, List.take_succ_eq_append_getElem hk]
    refine took_step ih (fun y hy e => ?_)
    obtain ⟨j, hj, rfl⟩ := List.getElem_of_mem hy
    have hjk : j < k := by rw [List.length_take] at hj; omega
    rw [List.getElem_take] at e
    have := List.pairwise_iff_getElem.1 hn j k (by simp; omega) (by simp; omega) hjk
    simp only [List.getElem_map] at this
    exact this e
theorem Took.nodup {σ : BSt} {l : List Ms} (h : Took σ l) (hn : (l.map keyM).Nodup) : ((σ.log ++ σ.wt.map (·.2)).map keyM).Nodup :=
  (h.all.map keyM).nodup_iff.2 (hn.sublist ((List.filter_sublist).map _))
theorem Took.far {σ : BSt} {l : List Ms} (h : Took σ l) (hn : (l.map keyM).Nodup) : ∀ m ∈ σ.wt.map (·.2), σ.tk m.f.toNat < m.c := by
  intro m hm
  refine Classical.byContradiction fun hc => ?_
  obtain ⟨p, hp, rfl⟩ := List.mem_map.1 hm
  have hr := rightB_iff.1 (h.q.ok.wt p hp).2
  have hct := h.q.cnt p.2.f hr.1 hr.2.1
  obtain ⟨y, hy, y1, y2⟩ := log_find (f := p.2.f) _ rfl h.ord hr.2.2.1 (by omega)
  have := h.nodup hn
  rw [List.map_append, List.nodup_append] at this
  exact this.2.2 (keyM y) (List.mem_map_of_mem hy) (keyM p.2) (List.mem_map_of_mem hm) (by unfold keyM; rw [y1, y2])
theorem Took.tk_le {σ τ : BSt} {l l' : List Ms} (h : Took σ l) (k : Took τ l') (hp : l.Perm l') (f : Int) (h0 : 0 ≤ f) (h1 : f < 16) : σ.tk f.toNat ≤ τ.tk f.toNat := by
  refine Classical.byContradiction fun hc => ?_
  have c1 := h.q.cnt f h0 h1
  have c2 := k.q.cnt f h0 h1
  obtain ⟨m, hm, m1, m2⟩ := log_find (f := f) (c := τ.tk f.toNat + 1) _ rfl h.ord (by omega) (by omega)
  have hin : m ∈ τ.log ++ τ.wt.map (·.2) := k.all.mem_iff.2 ((hp.filter _).mem_iff.1 (h.all.mem_iff.1 (List.mem_append_left _ hm)))
  rcases List.mem_append.1 hin with hin | hin
  · have := (log_count k.ord hin).2.2.2
    rw [m1, m2] at this
    omega
  · obtain ⟨p, hpm, rfl⟩ := List.mem_map.1 hin
    have e1 := (k.q.ok.wt p hpm).1
    have := kfind_of_mem k.q.ok.keys (k := p.1) (v := p.2) hpm
    rw [e1, m1, m2, k.q.nn f h0 h1] at this
    cases this
theorem Took.same {σ τ : BSt} {l l' : List Ms} (h : Took σ l) (k : Took τ l') (hp : l.Perm l') (hn : (l.map keyM).Nodup) :
    (∀ f : Int, 0 ≤ f → f < 16 → σ.tk f.toNat = τ.tk f.toNat) ∧ σ.log.length = τ.log.length ∧ (σ.wt.map (·.2)).Perm (τ.wt.map (·.2)) := by
  have htk : ∀ f : Int, 0 ≤ f → f < 16 → σ.tk f.toNat = τ.tk f.toNat := fun f h0 h1 => Int.le_antisymm (h.tk_le k hp f h0 h1) (k.tk_le h hp.symm f h0 h1)
  have hn' : (l'.map keyM).Nodup := (hp.map keyM).nodup_iff.1 hn
  have hall : (σ.log ++ σ.wt.map (·.2)).Perm (τ.log ++ τ.wt.map (·.2)) := (h.all.trans (hp.filter _)).trans k.all.symm
  have hw : (σ.wt.map (·.2)).Perm (τ.wt.map (·.2)) := by
    have := hall.filter (fun m => decide (σ.tk m.f.toNat < m.c))
    rw [List.filter_append, List.filter_append] at this
    have e1 : σ.log.filter (fun m => decide (σ.tk m.f.toNat < m.c)) = [] := by
      rw [List.filter_eq_nil_iff]
      intro m hm
      obtain ⟨q1, q2, q3, q4⟩ := log_count h.ord hm
      have := h.q.cnt m.f q1 q2
      simp; omega
    have e2 : τ.log.filter (fun m => decide (σ.tk m.f.toNat < m.c)) = [] := by
      rw [List.filter_eq_nil_iff]
      intro m hm
      obtain ⟨q1, q2, q3, q4⟩ := log_count k.ord hm
      have := k.q.cnt m.f q1 q2
      have := htk m.f q1 q2
      simp; omega
    have e3 : (σ.wt.map (·.2)).filter (fun m => decide (σ.tk m.f.toNat < m.c)) = σ.wt.map (·.2) := by
      rw [List.filter_eq_self]
      intro m hm
      simpa using h.far hn m hm
    have e4 : (τ.wt.map (·.2)).filter (fun m => decide (σ.tk m.f.toNat < m.c)) = τ.wt.map (·.2) := by
      rw [List.filter_eq_self]
      intro m hm
      have := k.far hn' m hm
      obtain ⟨p, hpm, rfl⟩ := List.mem_map.1 hm
      have hr := rightB_iff.1 (k.q.ok.wt p hpm).2
      have := htk p.2.f hr.1 hr.2.1
      simp; omega
    rw [e1, e2, e3, e4, List.nil_append, List.nil_append] at this
    exact this
  refine ⟨htk, ?_, hw⟩
  have h1 := hall.length_eq
  have h2 := hw.length_eq
  simp only [List.length_append] at h1
  omega
/-! ### a list turned, or turned round -/
def rotL (t : Nat) (l : List Ms) : List Ms := l.drop (t % l.length) ++ l.take (t % l.length)
theorem rotL_perm (t : Nat) (l : List Ms) : (rotL t l).Perm l := by
  unfold rotL
  exact List.perm_append_comm.trans (by rw [List.take_append_drop])
theorem rotL_len (t : Nat) (l : List Ms) : (rotL t l).length = l.length := (rotL_perm t l).length_eq
theorem add_mod_ways (i t n : Nat) (h : i < n) : (i + t) % n = if i + t % n < n then i + t % n else i + t % n - n := by
  have hm := Nat.mod_lt t (show 0 < n by omega)
  rw [Nat.add_mod, Nat.mod_eq_of_lt h]
  split
  · exact Nat.mod_eq_of_lt (by assumption)
  · rw [Nat.mod_eq_sub_mod (by omega), Nat.mod_eq_of_lt (by omega)]
theorem rotL_get (t : Nat) (l : List Ms) (i : Nat) (h : i < l.length) : (rotL t l)[i]'(by rw [rotL_len]; exact h) = l[(i + t) % l.length]'(Nat.mod_lt _ (by omega)) := by
  have hm := Nat.mod_lt t (show 0 < l.length by omega)
  have hw := add_mod_ways i t l.length h
  have hs : (rotL t l)[i]? = l[(i + t) % l.length]? := by
    rw [hw]
    unfold rotL
    by_cases hi : i < l.length - t % l.length
    · rw [List.getElem?_append_left (by rw [List.length_drop]; exact hi), List.getElem?_drop, if_pos (by omega), Nat.add_comm]
    · rw [List.getElem?_append_right (by rw [List.length_drop]; omega), List.length_drop, List.getElem?_take, if_pos (by omega), if_neg (by omega)]
      congr 1
      omega
  rw [List.getElem?_eq_getElem (by rw [rotL_len]; exact h), List.getElem?_eq_getElem (Nat.mod_lt _ (by omega))] at hs
  exact Option.some.inj hs
def turnL (t : Nat) (bk : Bool) (l : List Ms) : List Ms := rotL t (if bk then l.reverse else l)
theorem turnL_perm (t : Nat) (bk : Bool) (l : List Ms) : (turnL t bk l).Perm l := by
  unfold turnL
  cases bk
  · exact rotL_perm t l
  · exact (rotL_perm t _).trans (List.reverse_perm l)
theorem turnL_len (t : Nat) (bk : Bool) (l : List Ms) : (turnL t bk l).length = l.length := (turnL_perm t bk l).length_eq
def turnI (t n : Nat) (bk : Bool) (i : Nat) : Nat := if bk then n - 1 - (i + t) % n else (i + t) % n
theorem turnI_lt (t n : Nat) (bk : Bool) (i : Nat) (h : i < n) : turnI t n bk i < n := by
  have := Nat.mod_lt (i + t) (show 0 < n by omega)
  unfold turnI; split <;> omega
theorem turnL_get (t : Nat) (bk : Bool) (l : List Ms) (i : Nat) (h : i < l.length) : (turnL t bk l)[i]'(by rw [turnL_len]; exact h) = l[turnI t l.length bk i]'(turnI_lt t _ bk i h) := by
  unfold turnL turnI
  cases bk
  · exact rotL_get t l i h
  · have := rotL_get t l.reverse i (by simpa using h)
    simp only [if_true]
    rw [this, List.getElem_reverse]
    congr 1
    simp
end Go.Proofs.Ytbjondnombnpbaa
