/-
  The detector, plain: its state, what each method answers, what stays true.
-/
import Derived.Test.YtfdbfdbeegalpaaInts
namespace Go.Proofs.Ytfdbfdbeegalpaa
open Go.RowKit

def updI {β : Type} (f : Nat → β) (i : Nat) (v : β) : Nat → β := fun j => if j = i then v else f j
structure Nd where
  h : Int
  t : Int
  s : Bool
deriving DecidableEq
def Nd.val (x : Nd) : Value := .agg #[.int .u64 x.h, .int .u64 x.t, .bool x.s]
def nd0 : Nd := ⟨0, 0, false⟩
/-- The map's rows: nodes 0 to n - 1, in their order. -/
def asc (n : Nat) (f : Nat → Nd) : List (Int × Nd) := (List.range n).map (fun (i : Nat) => ((i : Int), f i))
theorem asc_succ (n : Nat) (f : Nat → Nd) : asc (n + 1) f = asc n f ++ [((n : Int), f n)] := by unfold asc; rw [List.range_succ, List.map_append]; rfl
theorem kfind_append {K V : Type} [DecidableEq K] (k : K) (a b : List (K × V)) : kfind k (a ++ b) = (kfind k a).orElse (fun _ => kfind k b) := by
  induction a with
  | nil => simp [kfind]
  | cons p r ih =>
    simp only [List.cons_append, kfind]
    split
    · rfl
    · exact ih
theorem kput_append {K V : Type} [DecidableEq K] (k : K) (v : V) (a b : List (K × V)) : kput k v (a ++ b) = if (kfind k a).isSome then kput k v a ++ b else a ++ kput k v b := by
  induction a with
  | nil => simp [kfind]
  | cons p r ih =>
    simp only [List.cons_append, kfind, kput]
    split
    · simp
    · rw [ih]; split <;> rfl
theorem kfind_asc (n : Nat) (f : Nat → Nd) (k : Int) : kfind k (asc n f) = if 0 ≤ k ∧ k < n then some (f k.toNat) else none := by
  induction n with
  | zero => simp only [asc, List.range_zero, List.map_nil, kfind]; rw [if_neg (by omega)]
  | succ n ih =>
    rw [asc_succ, kfind_append, ih]
    by_cases h : 0 ≤ k ∧ k < n
    · rw [if_pos h, if_pos (by omega)]; rfl
    · rw [if_neg h]
      simp only [Option.orElse_none, kfind]
      by_cases h2 : (n : Int) = k
      · subst h2; rw [if_pos rfl, if_pos (by omega)]; simp
      · rw [if_neg h2, if_neg (by omega)]
theorem asc_congr {n : Nat} {f g : Nat → Nd} (h : ∀ i, i < n → f i = g i) : asc n f = asc n g := by
  unfold asc; refine List.map_congr_left (fun i hi => ?_); rw [h i (List.mem_range.1 hi)]
theorem kput_asc (n : Nat) (f : Nat → Nd) (i : Nat) (v : Nd) (hi : i < n) : kput (i : Int) v (asc n f) = asc n (updI f i v) := by
  induction n with
  | zero => omega
  | succ n ih =>
    rw [asc_succ, asc_succ, kput_append]
    by_cases h : i < n
    · have hk : kfind (i : Int) (asc n f) = some (f i) := by rw [kfind_asc, if_pos (by omega)]; simp
      have : updI f i v n = f n := by unfold updI; rw [if_neg (by omega)]
      rw [hk, ih h, this]; rfl
    · have : i = n := by omega
      subst this
      have hk : kfind (i : Int) (asc i f) = none := by rw [kfind_asc, if_neg (by omega)]
      have e1 : asc i (updI f i v) = asc i f := asc_congr (fun j hj => by unfold updI; rw [if_neg (by omega)])
      have e2 : updI f i v i = v := by unfold updI; rw [if_pos rfl]
      rw [hk, e1, e2]
      simp [kput]
theorem kput_asc_new (n : Nat) (f : Nat → Nd) (v : Nd) : kput (n : Int) v (asc n f) = asc (n + 1) (updI f n v) := by
  have h := kput_append (n : Int) v (asc n f) []
  have hk : kfind (n : Int) (asc n f) = none := by rw [kfind_asc, if_neg (by omega)]
  rw [List.append_nil, hk] at h
  have e1 : asc n (updI f n v) = asc n f := asc_congr (fun j hj => by unfold updI; rw [if_neg (by omega)])
  have e2 : updI f n v n = v := by unfold updI; rw [if_pos rfl]
  rw [h, asc_succ, e1, e2]
  simp [kput]

structure DSt where
  self : Nat
  n : Nat
  first : Int
  most : Int
  step : Int
  now : Int
  nd : Nat → Nd
def maxT : Int := 1152921504606846976
structure DSt.Ok (σ : DSt) : Prop where
  n1 : 1 ≤ σ.n
  n16 : σ.n ≤ 16
  self : σ.self < σ.n
  most : σ.most ≤ maxT
  f1 : 1 ≤ σ.first
  f2 : σ.first ≤ σ.most
  s0 : 0 ≤ σ.step
  s1 : σ.step ≤ maxT
  w0 : 0 ≤ σ.now
  w1 : σ.now ≤ maxT
  h0 : ∀ i, 0 ≤ (σ.nd i).h
  h1 : ∀ i, (σ.nd i).h ≤ σ.now
  t0 : ∀ i, 0 ≤ (σ.nd i).t
  t1 : ∀ i, (σ.nd i).t ≤ σ.most
  ns : (σ.nd σ.self).s = false
def newB (self n first most step now : Int) : Bool := decide (1 ≤ n ∧ n ≤ 16 ∧ 0 ≤ self ∧ self ≤ n - 1 ∧ most ≤ maxT ∧ step ≤ maxT ∧ now ≤ maxT ∧ 1 ≤ first ∧ first ≤ most)
def newS (self n : Nat) (first most step now : Int) : DSt := ⟨self, n, first, most, step, now, fun _ => ⟨now, first, false⟩⟩
theorem newS_ok {self n : Nat} {first most step now : Int} (h : newB self n first most step now = true) (h0 : 0 ≤ step) (h1 : 0 ≤ now) : (newS self n first most step now).Ok := by
  unfold newB at h
  simp only [decide_eq_true_eq] at h
  obtain ⟨a1, a2, a3, a4, a5, a6, a7, a8, a9⟩ := h
  exact ⟨by show 1 ≤ n; omega, by show n ≤ 16; omega, by show self < n; omega, a5, a8, a9, h0, a6, h1, a7, fun _ => h1, fun _ => Int.le_refl _, fun _ => by show 0 ≤ first; omega, fun _ => a9, rfl⟩
def passB (σ : DSt) (t : Int) : Bool := decide (σ.now ≤ t ∧ t ≤ maxT)
def passS (σ : DSt) (t : Int) : DSt := { σ with now := t }
def nodeB (σ : DSt) (node : Int) : Bool := decide (0 ≤ node ∧ node ≤ (σ.n : Int) - 1)
def hearE (σ : DSt) (node t : Int) : Int := if nodeB σ node then (if passB σ t then 0 else 70) else 2
def hearX (σ : DSt) (x : Nd) (t : Int) : Nd := ⟨t, if x.s then min (x.t + σ.step) σ.most else x.t, false⟩
def hearS (σ : DSt) (node t : Int) : DSt := if nodeB σ node && passB σ t then { σ with now := t, nd := updI σ.nd node.toNat (hearX σ (σ.nd node.toNat) t) } else σ
def lateB (σ : DSt) (t : Int) (i : Nat) : Bool := decide (i ≠ σ.self) && (!(σ.nd i).s && decide ((σ.nd i).t < t - (σ.nd i).h))
def lateL (σ : DSt) (t : Int) : List Nat := (List.range σ.n).filter (lateB σ t)
def mark (f : Nat → Nd) (l : List Nat) : Nat → Nd := fun i => if i ∈ l then { f i with s := true } else f i
def tickE (σ : DSt) (t : Int) : Int := if passB σ t then 0 else 70
def tickL (σ : DSt) (t : Int) : List Nat := if passB σ t then lateL σ t else []
def tickS (σ : DSt) (t : Int) : DSt := if passB σ t then { σ with now := t, nd := mark σ.nd (lateL σ t) } else σ
def susL (σ : DSt) : List Nat := (List.range σ.n).filter (fun i => (σ.nd i).s)
def leadO (σ : DSt) : Option Nat := (List.range σ.n).find? (fun i => !(σ.nd i).s)
def leadV (σ : DSt) : Int := match leadO σ with | some i => i | none => -1
def timeV (σ : DSt) (node : Int) : Int := if 0 ≤ node ∧ node < σ.n then (σ.nd node.toNat).t else 0

theorem pass_ok {σ : DSt} (hO : σ.Ok) {t : Int} (h : passB σ t = true) : (passS σ t).Ok := by
  unfold passB at h
  simp only [decide_eq_true_eq] at h
  exact ⟨hO.n1, hO.n16, hO.self, hO.most, hO.f1, hO.f2, hO.s0, hO.s1, Int.le_trans hO.w0 h.1, h.2, hO.h0, fun i => Int.le_trans (hO.h1 i) h.1, hO.t0, hO.t1, hO.ns⟩
theorem hearX_b {σ : DSt} (hO : σ.Ok) (i : Nat) (t : Int) : 0 ≤ (hearX σ (σ.nd i) t).t ∧ (hearX σ (σ.nd i) t).t ≤ σ.most := by
  have h0 := hO.t0 i
  have h1 := hO.t1 i
  have h2 := hO.s0
  have h3 := hO.f1
  have h4 := hO.f2
  unfold hearX
  simp only
  split
  · omega
  · omega
theorem hear_ok {σ : DSt} (hO : σ.Ok) (node t : Int) : (hearS σ node t).Ok := by
  unfold hearS
  split
  · rename_i h
    simp only [Bool.and_eq_true] at h
    have hp := pass_ok hO h.2
    have hw := hp.w0
    have hb := hearX_b hO node.toNat t
    refine ⟨hO.n1, hO.n16, hO.self, hO.most, hO.f1, hO.f2, hO.s0, hO.s1, hp.w0, hp.w1, fun i => ?_, fun i => ?_, fun i => ?_, fun i => ?_, ?_⟩
    · simp only [updI]; split
      · exact hp.w0
      · exact hO.h0 i
    · simp only [updI]; split
      · exact Int.le_refl _
      · exact hp.h1 i
    · simp only [updI]; split
      · exact hb.1
      · exact hO.t0 i
    · simp only [updI]; split
      · exact hb.2
      · exact hO.t1 i
    · simp only [updI]; split
      · rfl
      · exact hO.ns
  · exact hO
theorem late_self (σ : DSt) (t : Int) : σ.self ∉ lateL σ t := fun h => by
  unfold lateL at h
  have := (List.mem_filter.1 h).2
  simp [lateB] at this
theorem mark_h (f : Nat → Nd) (l : List Nat) (i : Nat) : (mark f l i).h = (f i).h ∧ (mark f l i).t = (f i).t := by unfold mark; split <;> exact ⟨rfl, rfl⟩
theorem tick_ok {σ : DSt} (hO : σ.Ok) (t : Int) : (tickS σ t).Ok := by
  unfold tickS
  split
  · rename_i h
    have hp := pass_ok hO h
    refine ⟨hO.n1, hO.n16, hO.self, hO.most, hO.f1, hO.f2, hO.s0, hO.s1, hp.w0, hp.w1, fun i => ?_, fun i => ?_, fun i => ?_, fun i => ?_, ?_⟩
    · simp only [(mark_h _ _ i).1]; exact hO.h0 i
    · simp only [(mark_h _ _ i).1]; exact hp.h1 i
    · simp only [(mark_h _ _ i).2]; exact hO.t0 i
    · simp only [(mark_h _ _ i).2]; exact hO.t1 i
    · simp only [mark]; rw [if_neg (late_self σ t)]; exact hO.ns
  · exact hO
theorem hear_n (σ : DSt) (node t : Int) : (hearS σ node t).n = σ.n ∧ (hearS σ node t).self = σ.self ∧ (hearS σ node t).most = σ.most ∧ (hearS σ node t).step = σ.step := by unfold hearS; split <;> exact ⟨rfl, rfl, rfl, rfl⟩
theorem tick_n (σ : DSt) (t : Int) : (tickS σ t).n = σ.n ∧ (tickS σ t).self = σ.self ∧ (tickS σ t).most = σ.most ∧ (tickS σ t).step = σ.step := by unfold tickS; split <;> exact ⟨rfl, rfl, rfl, rfl⟩
end Go.Proofs.Ytfdbfdbeegalpaa
