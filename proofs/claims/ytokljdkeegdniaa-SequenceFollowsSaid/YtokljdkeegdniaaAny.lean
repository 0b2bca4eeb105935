/-
  sequence.Follower: Receive and Move, whatever they are handed.
-/
import Derived.Test.YtokljdkeegdniaaMove
import Derived.Test.YtokljdkeegdniaaPlainE
namespace Go.Proofs.Ytokljdkeegdniaa
open Go.RowKit

def badB (x : Nb) : Bool := !rightB x.m || decide (x.n < 1)
def recvE (σ : FwSt) (x : Nb) : Int := if badB x then 100 else if x.e < σ.ep then 110 else 0
def recvL (σ : FwSt) (x : Nb) : List Ms := if badB x then [] else if x.e = σ.ep then takeL σ [x] else []
def recvS (σ : FwSt) (x : Nb) : FwSt := if badB x then σ else if x.e < σ.ep then σ else if σ.ep < x.e then keepS σ x else takeS σ [x]
def moveE (σ : FwSt) (t : Int) : Int := if t ≤ σ.ep then 110 else 0
def moveX (σ : FwSt) (t : Int) : List Ms := if t ≤ σ.ep then [] else moveL σ t
def moveT (σ : FwSt) (t : Int) : FwSt := if t ≤ σ.ep then σ else moveS σ t
/-- What Receive and Move answer: the list n of errno e; the follower is σ behind. -/
def StepR (w : World) (b mw mb : Nat) (l : List Ms) (en : Int) (σ : FwSt) (e : Ending) (w' : World) : Prop :=
  ∃ nv, e = .returned (.tuple #[nv, .int .i64 en]) ∧ OwnMs w' nv l ∧ FwAt w' b mw mb σ ∧ Mods (FF b mw mb) w w' ∧ ∀ x, nv.ownBlock = some x → w.heap.size ≤ x
theorem recv_any {w : World} {b mw mb : Nat} {σ : FwSt} (h : FwAt w b mw mb σ) (hl : σ.wt.length ≤ 999999) (hb : σ.bf.length ≤ 999999) (x : Nb) :
    Calls Try.prog 14 #[.pointer (some ⟨b, 0, none⟩), x.val] w (StepR w b mw mb (recvL σ x) (recvE σ x) (recvS σ x)) := by
  cases hbad : badB x with
  | true =>
    have hb' : rightB x.m = false ∨ x.n < 1 := by unfold badB at hbad; simpa using hbad
    refine (recv_bad h x hb').mono (fun e w' hh => ?_)
    obtain ⟨rfl, hE⟩ := hh
    unfold recvL recvE recvS
    rw [hbad]
    exact ⟨_, rfl, Own.nil, h.ext hE, hE.mods _, fun z hz => by simp [Value.ownBlock] at hz⟩
  | false =>
    have hb' : rightB x.m = true ∧ 1 ≤ x.n := by unfold badB at hbad; simpa using hbad
    by_cases h1 : x.e < σ.ep
    · refine (recv_old h x hb'.1 hb'.2 h1).mono (fun e w' hh => ?_)
      obtain ⟨rfl, hE⟩ := hh
      unfold recvL recvE recvS
      rw [hbad]
      simp only [Bool.false_eq_true, if_false, if_pos h1]
      rw [if_neg (show ¬ x.e = σ.ep by omega)]
      exact ⟨_, rfl, Own.nil, h.ext hE, hE.mods _, fun z hz => by simp [Value.ownBlock] at hz⟩
    · by_cases h2 : σ.ep < x.e
      · refine (recv_ahead h (by omega) x hb'.1 hb'.2 h2).mono (fun e w' hh => ?_)
        obtain ⟨rfl, hF, hM⟩ := hh
        unfold recvL recvE recvS
        rw [hbad]
        simp only [Bool.false_eq_true, if_false, if_neg h1, if_pos h2]
        rw [if_neg (show ¬ x.e = σ.ep by omega)]
        exact ⟨_, rfl, Own.nil, hF, hM, fun z hz => by simp [Value.ownBlock] at hz⟩
      · have h3 : x.e = σ.ep := by omega
        refine (recv_now h hl x hb'.1 hb'.2 h3).mono (fun e w' hh => ?_)
        obtain ⟨nv, rfl, a1, a2, a3, a4⟩ := hh
        unfold recvL recvE recvS
        rw [hbad]
        simp only [Bool.false_eq_true, if_false, if_neg h1, if_neg h2, if_pos h3]
        exact ⟨_, rfl, a1, a2, a3, a4⟩
theorem move_any {w : World} {b mw mb : Nat} {σ : FwSt} (h : FwAt w b mw mb σ) (hnd : (σ.bf.map (·.1)).Nodup) (hb : σ.bf.length ≤ 999999) (t : Int) :
    Calls Try.prog 12 #[.pointer (some ⟨b, 0, none⟩), .int .u32 t] w (StepR w b mw mb (moveX σ t) (moveE σ t) (moveT σ t)) := by
  by_cases h1 : t ≤ σ.ep
  · refine (move_stale h t h1).mono (fun e w' hh => ?_)
    obtain ⟨rfl, hE⟩ := hh
    unfold moveX moveE moveT
    simp only [if_pos h1]
    exact ⟨_, rfl, Own.nil, h.ext hE, hE.mods _, fun z hz => by simp [Value.ownBlock] at hz⟩
  · refine (move_ahead h hnd hb t (by omega)).mono (fun e w' hh => ?_)
    obtain ⟨nv, rfl, a1, a2, a3, a4⟩ := hh
    unfold moveX moveE moveT
    simp only [if_neg h1]
    exact ⟨_, rfl, a1, a2, a3, a4⟩
/-! ### plain: the whole follower -/
/-- P came of this epoch, out was taken of it; what is buffered is of later ones. -/
structure FwOk (P : List Nb) (out : List Ms) (σ : FwSt) : Prop where
  ep : EpL σ.ep P out σ.nx σ.wt
  gap : EpG σ.ep P σ.nx
  bn : (σ.bf.map (·.1)).Nodup
  bk : ∀ p ∈ σ.bf, σ.ep < p.1.1 ∧ 1 ≤ p.1.2
  bl : σ.bf.length ≤ 64
theorem fw0_ok (e : Int) : FwOk [] [] (fw0 e) := ⟨EpL.nil e, EpG.nil e 1, by simp [fw0], by simp [fw0], by simp [fw0]⟩
theorem FwOk.wl {P : List Nb} {out : List Ms} {σ : FwSt} (h : FwOk P out σ) : σ.wt.length ≤ P.length := by have := h.ep.len; omega
theorem keepS_ep (σ : FwSt) (x : Nb) : (keepS σ x).ep = σ.ep ∧ (keepS σ x).nx = σ.nx ∧ (keepS σ x).wt = σ.wt := by
  unfold keepS; split
  · exact ⟨rfl, rfl, rfl⟩
  · split <;> exact ⟨rfl, rfl, rfl⟩
theorem FwOk.keep {P : List Nb} {out : List Ms} {σ : FwSt} (h : FwOk P out σ) (x : Nb) (he : σ.ep < x.e) (h1 : 1 ≤ x.n) : FwOk P out (keepS σ x) := by
  obtain ⟨e1, e2, e3⟩ := keepS_ep σ x
  refine ⟨by rw [e1, e2, e3]; exact h.ep, by rw [e1, e2]; exact h.gap, ?_, ?_, ?_⟩
  · unfold keepS; split
    · exact h.bn
    · split
      · exact nodup_kput h.bn
      · exact h.bn
  · rw [e1]
    unfold keepS; split
    · exact h.bk
    · split
      · intro p hp
        rcases mem_kput hp with rfl | hp
        · exact ⟨he, h1⟩
        · exact h.bk p hp
      · exact h.bk
  · unfold keepS; split
    · exact h.bl
    · split
      · have := kput_len_le (x.e, x.n) x.m σ.bf
        simp only; omega
      · exact h.bl
theorem FwOk.take {P : List Nb} {out : List Ms} {σ : FwSt} (h : FwOk P out σ) (x : Nb) (he : x.e = σ.ep) (h1 : 1 ≤ x.n) (hP : P.length < 1000000) : FwOk (addP σ x P) (out ++ takeL σ [x]) (takeS σ [x]) := by
  have := h.ep.take1 h.gap he h1 hP
  have e1 := take1_ep σ x
  have e2 := take1_bf σ x
  have e3 : takeL σ [x] = drain (putW σ x) := by show drain (putW σ x) ++ [] = _; rw [List.append_nil]
  show FwOk _ _ (take1 σ x)
  rw [e3]
  exact ⟨by rw [e1]; exact this.1, by rw [e1]; exact this.2, by rw [e2]; exact h.bn, by rw [e1, e2]; exact h.bk, by rw [e2]; exact h.bl⟩
theorem mem_relL {σ : FwSt} {y : Nb} : y ∈ relL σ ↔ ∃ p ∈ σ.bf, p.1.1 = σ.ep ∧ y = nbOf p := by
  unfold relL nowB
  rw [(srtN_perm _).mem_iff, List.mem_map]
  constructor
  · rintro ⟨p, hp, rfl⟩
    obtain ⟨h1, h2⟩ := List.mem_filter.1 hp
    exact ⟨p, h1, by simpa using h2, rfl⟩
  · rintro ⟨p, h1, h2, rfl⟩
    exact ⟨p, List.mem_filter.2 ⟨h1, by simpa using h2⟩, rfl⟩
def moveP (σ : FwSt) (t : Int) : List Nb := addL (relS (entS σ t)) (relL (entS σ t)) []
theorem FwOk.move {P : List Nb} {out : List Ms} {σ : FwSt} (h : FwOk P out σ) (t : Int) : FwOk (moveP σ t) (moveL σ t) (moveS σ t) ∧ (moveS σ t).ep = t ∧ (moveS σ t).bf = σ.bf.filter (fun p => decide (t < p.1.1)) ∧
    (∀ y, y ∈ moveP σ t → ∃ p ∈ σ.bf, p.1.1 = t ∧ y = nbOf p) ∧ (∀ p ∈ σ.bf, p.1.1 = t → ∃ y ∈ moveP σ t, y.n = p.1.2) ∧ (moveP σ t).length ≤ 64 := by
  have hl : (relL (entS σ t)).length ≤ 64 := Nat.le_trans (relL_len _) h.bl
  have := EpL.takeL (relL (entS σ t)) (relS (entS σ t)) [] [] (EpL.nil t) (EpG.nil t 1) (fun x hx => by
    obtain ⟨p, hp, e, rfl⟩ := mem_relL.1 hx
    exact ⟨e, (h.bk p hp).2⟩) (by simp; omega)
  obtain ⟨a1, a2, a3, a4, a5, a6, a7, a8⟩ := this
  rw [List.nil_append] at a1
  have e1 : (moveS σ t).ep = t := a3
  have e2 : (moveS σ t).bf = σ.bf.filter (fun p => decide (t < p.1.1)) := a4
  refine ⟨⟨by rw [e1]; exact a1, by rw [e1]; exact a2, ?_, ?_, ?_⟩, e1, e2, fun y hy => ?_, fun p hp e => ?_, ?_⟩
  · rw [e2]; exact h.bn.sublist ((List.filter_sublist).map _)
  · rw [e1, e2]
    intro p hp
    obtain ⟨h1, h2⟩ := List.mem_filter.1 hp
    exact ⟨by simpa using h2, (h.bk p h1).2⟩
  · rw [e2]; exact Nat.le_trans (List.length_filter_le _ _) h.bl
  · rcases a6 y hy with h | h
    · simp at h
    · exact mem_relL.1 h
  · exact a7 (nbOf p) (mem_relL.2 ⟨p, hp, e, rfl⟩)
  · simp at a8
    exact Nat.le_trans a8 hl
end Go.Proofs.Ytokljdkeegdniaa
