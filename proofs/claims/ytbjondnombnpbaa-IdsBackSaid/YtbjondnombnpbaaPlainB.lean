/-
  The book, plain: its state, what each method answers, what stays true.
-/
import Derived.Test.YtbjondnombnpbaaOps
namespace Go.Proofs.Ytbjondnombnpbaa
open Go.RowKit

def updI {β : Type} (f : Nat → β) (i : Nat) (v : β) : Nat → β := fun j => if j = i then v else f j
structure BSt where
  tk : Nat → Int
  log : List Ms
  wt : List ((Int × Int) × Ms)
def b0 : BSt := ⟨fun _ => 0, [], []⟩

/-- A message and those that wait behind it. -/
def rowN : Nat → List ((Int × Int) × Ms) → Ms → List Ms
  | 0, _, x => [x]
  | k + 1, wt, x => x :: (match kfind (x.f, x.c + 1) wt with | none => [] | some y => rowN k wt y)
def rowL (wt : List ((Int × Int) × Ms)) (x : Ms) : List Ms := rowN (4294967295 - x.c.toNat) wt x
def eatS (σ : BSt) (x : Ms) : BSt := { σ with wt := kdel (x.f, x.c) σ.wt, tk := updI σ.tk x.f.toNat x.c }
def eatN (σ : BSt) (l : List Ms) : BSt := l.foldl eatS σ
def hasB (σ : BSt) (f c : Int) : Bool := decide (0 ≤ f ∧ f < 16 ∧ 1 ≤ c) && ((kfind (f, c) σ.wt).isSome || decide (c ≤ σ.tk f.toNat))
def waitS (σ : BSt) (m : Ms) : BSt := if hasB σ m.f m.c then σ else { σ with wt := kput (m.f, m.c) m σ.wt }
def isNext (σ : BSt) (m : Ms) : Bool := decide (m.c = σ.tk m.f.toNat + 1)
def takeL (σ : BSt) (m : Ms) : List Ms := if rightB m && isNext σ m then rowL σ.wt m else []
def takeS (σ : BSt) (m : Ms) : BSt := if rightB m then (if isNext σ m then { eatN σ (rowL σ.wt m) with log := σ.log ++ rowL σ.wt m } else waitS σ m) else σ
def nextB (σ : BSt) (f : Int) : Int := if 0 ≤ f ∧ f < 16 then σ.tk f.toNat + 1 else 0

theorem rightB_iff {m : Ms} : rightB m = true ↔ (0 ≤ m.f ∧ m.f < 16 ∧ 1 ≤ m.c ∧ m.c ≤ 4294967294 ∧ m.d.size ≤ 1000) := by unfold rightB; simp

structure BSt.Ok (σ : BSt) : Prop where
  tk0 : ∀ i, 0 ≤ σ.tk i
  tk1 : ∀ i, σ.tk i ≤ 4294967294
  keys : (σ.wt.map (·.1)).Nodup
  wt : ∀ p ∈ σ.wt, p.1 = (p.2.f, p.2.c) ∧ rightB p.2 = true
theorem b0_ok : b0.Ok := ⟨by simp [b0], by simp [b0], by simp [b0], by simp [b0]⟩

theorem find_right {σ : BSt} (hO : σ.Ok) {f c : Int} {y : Ms} (h : kfind (f, c) σ.wt = some y) : y.f = f ∧ y.c = c ∧ rightB y = true := by
  have := hO.wt _ (kfind_mem h)
  obtain ⟨h1, h2⟩ := this
  injection h1 with h1 h3
  exact ⟨h1.symm, h3.symm, h2⟩
/-- The row, place by place. -/
theorem rowN_at {σ : BSt} (hO : σ.Ok) : ∀ (n : Nat) (x : Ms), rightB x = true → 4294967295 ≤ x.c.toNat + n →
    (rowN n σ.wt x)[0]? = some x ∧ (∀ (k : Nat) (y : Ms), (rowN n σ.wt x)[k]? = some y → y.f = x.f ∧ y.c = x.c + k ∧ rightB y = true) ∧ ∀ k : Nat, k < (rowN n σ.wt x).length → kfind (x.f, x.c + k + 1) σ.wt = (rowN n σ.wt x)[k + 1]?
  | 0, x, hx, hn => by
    rw [rightB_iff] at hx; omega
  | n + 1, x, hx, hn => by
    have hx' := rightB_iff.1 hx
    unfold rowN
    cases hy : kfind (x.f, x.c + 1) σ.wt with
    | none =>
      refine ⟨rfl, fun k y h => ?_, fun k hk => ?_⟩
      · cases k with
        | zero => simp at h; subst h; exact ⟨rfl, by omega, hx⟩
        | succ k => simp at h
      · simp at hk; subst hk; simpa using hy
    | some y =>
      obtain ⟨e1, e2, e3⟩ := find_right hO hy
      obtain ⟨i1, i2, i3⟩ := rowN_at hO n y e3 (by omega)
      refine ⟨rfl, fun k z h => ?_, fun k hk => ?_⟩
      · cases k with
        | zero => simp at h; subst h; exact ⟨rfl, by omega, hx⟩
        | succ k =>
          simp only [List.getElem?_cons_succ] at h
          obtain ⟨j1, j2, j3⟩ := i2 k z h
          exact ⟨by rw [j1, e1], by rw [j2, e2]; push_cast; omega, j3⟩
      · cases k with
        | zero => simp only [List.getElem?_cons_succ]; rw [i1]; simpa using hy
        | succ k =>
          simp only [List.length_cons] at hk
          have := i3 k (by omega)
          simp only [List.getElem?_cons_succ]
          rw [← this, e1, e2]
          congr 2
          push_cast; omega
theorem rowL_at {σ : BSt} (hO : σ.Ok) {x : Ms} (hx : rightB x = true) :
    (rowL σ.wt x)[0]? = some x ∧ (∀ (k : Nat) (y : Ms), (rowL σ.wt x)[k]? = some y → y.f = x.f ∧ y.c = x.c + k ∧ rightB y = true) ∧ ∀ k : Nat, k < (rowL σ.wt x).length → kfind (x.f, x.c + k + 1) σ.wt = (rowL σ.wt x)[k + 1]? :=
  rowN_at hO _ x hx (by omega)
theorem eatN_snoc (σ : BSt) (l : List Ms) (x : Ms) : eatN σ (l ++ [x]) = eatS (eatN σ l) x := by simp [eatN]
theorem eatN_log (σ : BSt) (l : List Ms) : (eatN σ l).log = σ.log := by
  induction l generalizing σ with
  | nil => rfl
  | cons x t ih => exact (ih (eatS σ x)).trans rfl
theorem eat_find (l : List Ms) : ∀ (σ : BSt) (j : Int × Int), (∀ m ∈ l, j ≠ (m.f, m.c)) → kfind j (eatN σ l).wt = kfind j σ.wt := by
  induction l with
  | nil => intro σ j _; rfl
  | cons x t ih =>
    intro σ j h
    have := ih (eatS σ x) j (fun m hm => h m (List.mem_cons_of_mem _ hm))
    refine this.trans ?_
    unfold eatS
    exact kfind_del_other (h x (List.mem_cons_self ..))
theorem eatS_ok {σ : BSt} (hO : σ.Ok) {x : Ms} (hx : rightB x = true) : (eatS σ x).Ok := by
  have hx' := rightB_iff.1 hx
  refine ⟨fun i => ?_, fun i => ?_, nodup_kdel hO.keys, fun p hp => hO.wt p (mem_kdel hp)⟩
  · show 0 ≤ updI σ.tk x.f.toNat x.c i
    unfold updI; split
    · omega
    · exact hO.tk0 i
  · show updI σ.tk x.f.toNat x.c i ≤ _
    unfold updI; split
    · omega
    · exact hO.tk1 i
theorem eatN_ok {l : List Ms} : ∀ {σ : BSt}, σ.Ok → (∀ m ∈ l, rightB m = true) → (eatN σ l).Ok := by
  induction l with
  | nil => intro σ h _; exact h
  | cons x t ih => intro σ h hl; exact ih (σ := eatS σ x) (eatS_ok h (hl x (List.mem_cons_self ..))) (fun m hm => hl m (List.mem_cons_of_mem _ hm))
theorem BSt.Ok.log {σ : BSt} (h : σ.Ok) (l : List Ms) : ({ σ with log := l } : BSt).Ok := ⟨h.tk0, h.tk1, h.keys, h.wt⟩
theorem row_right {σ : BSt} (hO : σ.Ok) {x : Ms} (hx : rightB x = true) : ∀ m ∈ rowL σ.wt x, rightB m = true := fun m hm => by
  obtain ⟨k, hk⟩ := List.mem_iff_getElem?.1 hm
  exact ((rowL_at hO hx).2.1 k m hk).2.2
theorem take_ok {σ : BSt} (hO : σ.Ok) (m : Ms) : (takeS σ m).Ok := by
  unfold takeS
  by_cases hr : rightB m = true
  · rw [if_pos hr]
    split
    · exact (eatN_ok hO (row_right hO hr)).log _
    · unfold waitS
      split
      · exact hO
      · exact ⟨hO.tk0, hO.tk1, nodup_kput hO.keys, fun p hp => by
          rcases mem_kput hp with rfl | hp
          · exact ⟨rfl, hr⟩
          · exact hO.wt p hp⟩
  · rw [if_neg hr]; exact hO
end Go.Proofs.Ytbjondnombnpbaa
