/-
  The pool, plain: its state, what each method answers, what stays true.
-/
import Derived.Test.YtkkcdoajdhbofaaOps
namespace Go.Proofs.Ytkkcdoajdhbofaa
open Go.RowKit

def keyM (m : Ms) : Int × Int := (m.f, m.c)
def ltK (x y : Ms) : Bool := decide (x.f < y.f ∨ x.f = y.f ∧ x.c < y.c)
theorem ltK_iff {x y : Ms} : ltK x y = true ↔ (x.f < y.f ∨ x.f = y.f ∧ x.c < y.c) := by unfold ltK; simp
theorem ltK_no {x y : Ms} : ltK x y = false ↔ ¬ (x.f < y.f ∨ x.f = y.f ∧ x.c < y.c) := by unfold ltK; simp
theorem ltK_key {x y : Ms} (h : keyM x ≠ keyM y) (k : ltK x y = false) : ltK y x = true := by
  rw [ltK_no] at k; rw [ltK_iff]
  unfold keyM at h; simp at h
  omega
/-- .. rising by their ids. -/
def Rise (l : List Ms) : Prop := l.Pairwise (fun x y => ltK x y = true)
theorem rise_unique : ∀ {a b : List Ms}, a.Perm b → Rise a → Rise b → a = b
  | [], b, hp, _, _ => by rw [List.nil_perm.1 hp]
  | x :: t, [], hp, _, _ => by have := hp.length_eq; simp at this
  | x :: t, y :: u, hp, ha, hb => by
    have hxy : x = y := by
      refine Classical.byContradiction fun hne => ?_
      have h1 : x ∈ u := by rcases List.mem_cons.1 (hp.mem_iff.1 (List.mem_cons_self ..)) with e | e; exact absurd e hne; exact e
      have h2 : y ∈ t := by rcases List.mem_cons.1 (hp.mem_iff.2 (List.mem_cons_self ..)) with e | e; exact absurd e.symm hne; exact e
      have p1 := ltK_iff.1 (List.rel_of_pairwise_cons hb h1)
      have p2 := ltK_iff.1 (List.rel_of_pairwise_cons ha h2)
      omega
    subst hxy
    rw [rise_unique (List.Perm.cons_inv hp) (List.Pairwise.of_cons ha) (List.Pairwise.of_cons hb)]
def insM (m : Ms) : List Ms → List Ms
  | [] => [m]
  | x :: t => if ltK x m then x :: insM m t else m :: x :: t
def srtL : List Ms → List Ms
  | [] => []
  | m :: t => insM m (srtL t)
theorem insM_perm (m : Ms) : ∀ l, (insM m l).Perm (m :: l)
  | [] => List.Perm.refl _
  | x :: t => by
    unfold insM; split
    · exact ((insM_perm m t).cons x).trans (List.Perm.swap ..)
    · exact List.Perm.refl _
theorem srtL_perm : ∀ l, (srtL l).Perm l
  | [] => List.Perm.refl _
  | m :: t => (insM_perm m _).trans ((srtL_perm t).cons m)
theorem srtL_len (l : List Ms) : (srtL l).length = l.length := (srtL_perm l).length_eq
theorem insM_rise {m : Ms} : ∀ {l : List Ms}, Rise l → (∀ y ∈ l, keyM y ≠ keyM m) → Rise (insM m l)
  | [], _, _ => by simp [insM, Rise]
  | x :: t, h, hk => by
    unfold insM
    have hx := hk x (List.mem_cons_self ..)
    split
    · rename_i hlt
      refine List.pairwise_cons.2 ⟨fun y hy => ?_, insM_rise (List.Pairwise.of_cons h) (fun y hy => hk y (List.mem_cons_of_mem _ hy))⟩
      rcases List.mem_cons.1 ((insM_perm m t).mem_iff.1 hy) with e | e
      · rw [e]; exact hlt
      · exact List.rel_of_pairwise_cons h e
    · rename_i hlt
      have hmx : ltK m x = true := ltK_key hx (by simpa using hlt)
      refine List.pairwise_cons.2 ⟨fun y hy => ?_, h⟩
      rcases List.mem_cons.1 hy with e | e
      · rw [e]; exact hmx
      · have h1 := ltK_iff.1 (List.rel_of_pairwise_cons h e)
        have h2 := ltK_iff.1 hmx
        rw [ltK_iff]; omega
theorem srtL_rise : ∀ {l : List Ms}, (l.map keyM).Nodup → Rise (srtL l)
  | [], _ => by simp [srtL, Rise]
  | m :: t, hn => by
    simp only [List.map_cons, List.nodup_cons] at hn
    refine insM_rise (srtL_rise hn.2) (fun y hy e => hn.1 ?_)
    rw [← e]; exact List.mem_map_of_mem ((srtL_perm t).mem_iff.1 hy)
theorem srtL_eq {a b : List Ms} (hp : a.Perm b) (ha : Rise a) (hn : (b.map keyM).Nodup) : srtL b = a := rise_unique ((srtL_perm b).trans hp.symm) (srtL_rise hn) ha
theorem insM_append {m : Ms} : ∀ {a b : List Ms}, (∀ x ∈ a, ltK x m = true) → (∀ y ∈ b, ltK y m = false) → insM m (a ++ b) = a ++ m :: b
  | [], [], _, _ => rfl
  | [], y :: b, _, h => by
    have := h y (List.mem_cons_self ..)
    show insM m (y :: b) = _
    unfold insM; rw [this]; rfl
  | x :: a, b, h, k => by
    have := h x (List.mem_cons_self ..)
    show insM m (x :: (a ++ b)) = _
    unfold insM; rw [this]
    simp only [if_true]
    rw [insM_append (fun y hy => h y (List.mem_cons_of_mem _ hy)) k]; rfl

structure PSt where
  wt : List ((Int × Int) × Ms)
  dn : List ((Int × Int) × Unit)
def p0 : PSt := ⟨[], []⟩
def valsP (σ : PSt) : List Ms := σ.wt.map (·.2)
def pend (σ : PSt) : List Ms := srtL (valsP σ)
def isB (σ : PSt) (k : Int × Int) : Bool := (kfind k σ.dn).isSome
def hasP (σ : PSt) (k : Int × Int) : Bool := (kfind k σ.wt).isSome || isB σ k
def addE (σ : PSt) (m : Ms) : Int := if rightB m then (if hasP σ (keyM m) then 0 else if 1000 ≤ σ.wt.length then 120 else 0) else 100
def addS (σ : PSt) (m : Ms) : PSt := if rightB m then (if hasP σ (keyM m) then σ else if 1000 ≤ σ.wt.length then σ else { σ with wt := kput (keyM m) m σ.wt }) else σ
def done1 (σ : PSt) (m : Ms) : PSt := if isB σ (keyM m) then σ else ⟨kdel (keyM m) σ.wt, kput (keyM m) () σ.dn⟩
def doneN (σ : PSt) (l : List Ms) : PSt := l.foldl done1 σ
def doneL : PSt → List Ms → List Ms
  | _, [] => []
  | σ, m :: t => (if isB σ (keyM m) then [] else [m]) ++ doneL (done1 σ m) t
def rightL (l : List Ms) : Bool := l.all rightB
def doneS (σ : PSt) (l : List Ms) : PSt := if rightL l then doneN σ l else σ
def doneA (σ : PSt) (l : List Ms) : List Ms := if rightL l then doneL σ l else []
def doneE (l : List Ms) : Int := if rightL l then 0 else 100
def batchE (n : Int) : Int := if 1 ≤ n ∧ n ≤ 64 then 0 else 2
def batchL (σ : PSt) (n : Int) : List Ms := if 1 ≤ n ∧ n ≤ 64 then (pend σ).take n.toNat else []

structure PSt.Ok (σ : PSt) : Prop where
  keys : (σ.wt.map (·.1)).Nodup
  wt : ∀ p ∈ σ.wt, p.1 = keyM p.2 ∧ rightB p.2 = true
  dis : ∀ p ∈ σ.wt, isB σ p.1 = false
  len : σ.wt.length ≤ 1000
theorem p0_ok : p0.Ok := ⟨by simp [p0], by simp [p0], by simp [p0], by simp [p0]⟩
theorem PSt.Ok.nodup {σ : PSt} (h : σ.Ok) : ((valsP σ).map keyM).Nodup := by
  have : (valsP σ).map keyM = σ.wt.map (·.1) := by
    unfold valsP
    rw [List.map_map]
    exact List.map_congr_left (fun p hp => ((h.wt p hp).1).symm)
  rw [this]; exact h.keys
theorem PSt.Ok.rise {σ : PSt} (h : σ.Ok) : Rise (pend σ) := srtL_rise h.nodup
theorem pend_len (σ : PSt) : (pend σ).length = σ.wt.length := by unfold pend valsP; rw [srtL_len, List.length_map]
theorem kdel_len_le {K V : Type} [DecidableEq K] (k : K) (kv : List (K × V)) : (kdel k kv).length ≤ kv.length := by
  induction kv with
  | nil => simp [kdel]
  | cons p r ih => unfold kdel; split <;> simp; omega
theorem kput_new {K V : Type} [DecidableEq K] {k : K} {v : V} {kv : List (K × V)} (h : kfind k kv = none) : kput k v kv = kv ++ [(k, v)] := by
  induction kv with
  | nil => rfl
  | cons p r ih =>
    unfold kfind at h; unfold kput
    by_cases hp : p.1 = k
    · rw [if_pos hp] at h; cases h
    · rw [if_neg hp] at h ⊢; rw [ih h]; rfl
theorem kdel_perm {K V : Type} [DecidableEq K] {k : K} {v : V} {kv : List (K × V)} (h : kfind k kv = some v) : kv.Perm ((k, v) :: kdel k kv) := by
  induction kv with
  | nil => simp [kfind] at h
  | cons p r ih =>
    unfold kfind at h; unfold kdel
    by_cases hp : p.1 = k
    · rw [if_pos hp] at h ⊢
      injection h with h
      obtain ⟨a, b⟩ := p
      simp only at hp h
      subst hp; subst h
      exact List.Perm.refl _
    · rw [if_neg hp] at h ⊢
      exact ((ih h).cons p).trans (List.Perm.swap ..)
theorem kdel_none {K V : Type} [DecidableEq K] {k : K} {kv : List (K × V)} (h : kfind k kv = none) : kdel k kv = kv := by
  induction kv with
  | nil => rfl
  | cons p r ih =>
    unfold kfind at h; unfold kdel
    by_cases hp : p.1 = k
    · rw [if_pos hp] at h; cases h
    · rw [if_neg hp] at h ⊢; rw [ih h]
theorem isB_put (σ : PSt) (k j : Int × Int) (wt : List ((Int × Int) × Ms)) : isB ⟨wt, kput k () σ.dn⟩ j = (decide (j = k) || isB σ j) := by
  unfold isB
  by_cases h : j = k
  · subst h; simp only [kfind_put_self]; simp
  · simp only [kfind_put_other _ _ h]; simp [h]
theorem add_ok {σ : PSt} (h : σ.Ok) (m : Ms) : (addS σ m).Ok := by
  unfold addS
  split
  · rename_i hr
    split
    · exact h
    · rename_i hh
      split
      · exact h
      · rename_i hl
        have hh' : hasP σ (keyM m) = false := by simpa using hh
        unfold hasP at hh'
        rw [Bool.or_eq_false_iff] at hh'
        have hk : kfind (keyM m) σ.wt = none := by simpa using hh'.1
        refine ⟨nodup_kput h.keys, fun p hp => ?_, fun p hp => ?_, ?_⟩
        · rcases mem_kput hp with rfl | hp
          · exact ⟨rfl, hr⟩
          · exact h.wt p hp
        · rcases mem_kput hp with rfl | hp
          · exact hh'.2
          · exact h.dis p hp
        · simp only; rw [kput_new hk]; simp; omega
  · exact h
theorem done1_ok {σ : PSt} (h : σ.Ok) (m : Ms) : (done1 σ m).Ok := by
  unfold done1
  split
  · exact h
  · refine ⟨nodup_kdel h.keys, fun p hp => h.wt p (mem_kdel hp), fun p hp => ?_, Nat.le_trans (kdel_len_le _ _) h.len⟩
    rw [isB_put, h.dis p (mem_kdel hp)]
    have hne : p.1 ≠ keyM m := fun e => by
      have h1 := kfind_of_mem (nodup_kdel (k := keyM m) h.keys) (k := p.1) (v := p.2) hp
      rw [e, kfind_del_self h.keys] at h1; cases h1
    simp [hne]
theorem doneN_ok {l : List Ms} : ∀ {σ : PSt}, σ.Ok → (doneN σ l).Ok := by
  induction l with
  | nil => intro σ h; exact h
  | cons m t ih => intro σ h; exact ih (done1_ok h m)
theorem doneS_ok {σ : PSt} (h : σ.Ok) (l : List Ms) : (doneS σ l).Ok := by unfold doneS; split; exact doneN_ok h; exact h
theorem doneN_snoc (σ : PSt) (l : List Ms) (m : Ms) : doneN σ (l ++ [m]) = done1 (doneN σ l) m := by simp [doneN]
theorem doneL_snoc (l : List Ms) (m : Ms) : ∀ σ, doneL σ (l ++ [m]) = doneL σ l ++ (if isB (doneN σ l) (keyM m) then [] else [m]) := by
  induction l with
  | nil => intro σ; simp only [List.nil_append, doneL, List.append_nil]; rfl
  | cons x t ih =>
    intro σ
    simp only [List.cons_append, doneL, ih, List.append_assoc]
    rfl
theorem doneL_len (l : List Ms) : ∀ σ, (doneL σ l).length ≤ l.length := by
  induction l with
  | nil => intro σ; simp [doneL]
  | cons x t ih => intro σ; simp only [doneL, List.length_append, List.length_cons]; have := ih (done1 σ x); split <;> simp <;> omega
theorem isB_done1 (σ : PSt) (m : Ms) (j : Int × Int) : isB (done1 σ m) j = (decide (j = keyM m) || isB σ j) := by
  unfold done1
  split
  · rename_i h
    by_cases e : j = keyM m
    · rw [e, h]; simp
    · simp [e]
  · exact isB_put σ _ _ _
theorem isB_doneN (l : List Ms) : ∀ (σ : PSt) (j : Int × Int), isB (doneN σ l) j = (decide (j ∈ l.map keyM) || isB σ j) := by
  induction l with
  | nil => intro σ j; simp [doneN]
  | cons m t ih =>
    intro σ j
    show isB (doneN (done1 σ m) t) j = _
    rw [ih, isB_done1]
    by_cases h1 : j = keyM m <;> by_cases h2 : j ∈ t.map keyM <;> simp_all
end Go.Proofs.Ytkkcdoajdhbofaa
