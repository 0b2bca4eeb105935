/-
  SequenceFollows, plain: the follower and the document's one keep step.
-/
import Derived.Test.YtokljdkeegdniaaRefI
namespace Go.Proofs.Ytokljdkeegdniaa
open Go.RowKit

theorem EpL.some_iff {ep : Int} {P : List Nb} {out : List Ms} {nx : Int} {wt : List ((Int × Int) × Ms)} (h : EpL ep P out nx wt) (n : Int) : (kfind (ep, n) wt).isSome = true ↔ ∃ y ∈ P, nx ≤ y.n ∧ y.n = n := by
  constructor
  · intro hh
    obtain ⟨v, hv⟩ := Option.isSome_iff_exists.1 hh
    obtain ⟨x, hx, h1, e⟩ := (h.wm _).1 (kfind_mem hv)
    unfold kyOf at e
    simp only [Prod.mk.injEq] at e
    exact ⟨x, hx, h1, e.1.2.symm⟩
  · rintro ⟨y, hy, h1, rfl⟩
    have : kyOf y ∈ wt := (h.wm _).2 ⟨y, hy, h1, rfl⟩
    have e2 : kyOf y = ((ep, y.n), y.m) := by unfold kyOf; rw [(h.pe y hy).1]
    rw [e2] at this
    rw [kfind_of_mem h.wn this]; rfl
theorem newB_congr {P : List Nb} {out out' : List Ms} {σ τ : FwSt} {x : Nb} (h : EpL σ.ep P out σ.nx σ.wt) (h' : EpL τ.ep P out' τ.nx τ.wt) (he : σ.ep = τ.ep) (hn : σ.nx = τ.nx) (hx : x.e = σ.ep) : newB σ x = newB τ x := by
  unfold newB
  have a := h.some_iff x.n
  have b := h'.some_iff x.n
  rw [← hx] at a
  rw [← he, ← hx] at b
  rw [← hn] at b
  have : (kfind (x.e, x.n) σ.wt).isSome = (kfind (x.e, x.n) τ.wt).isSome := by
    rw [Bool.eq_iff_iff, a, b]
  rw [this, hn]
/-- If it is of this epoch, and nothing is to be taken: Receive of the document is take. -/
theorem ref_take {σ : FwSt} {x : Nb} (hg : kfind (σ.ep, σ.nx) σ.wt = none) (hb : badB x = false) (he : x.e = σ.ep) : refS σ x = take1 σ x ∧ refL σ x = drain (putW σ x) := by
  unfold refS refL
  rw [hb]
  simp only [Bool.false_eq_true, if_false]
  rw [if_neg (by omega), if_neg (by omega), if_pos he]
  cases hn : newB σ x with
  | true => exact ⟨rfl, rfl⟩
  | false =>
    have e1 := newB_false hn
    have e2 := drain_none hg
    unfold take1
    rw [e1, e2]
    exact ⟨rfl, rfl⟩
def refRS : FwSt → List Nb → FwSt
  | σ, [] => σ
  | σ, x :: t => refRS (refS σ x) t
def refRL : FwSt → List Nb → List Ms
  | _, [] => []
  | σ, x :: t => refL σ x ++ refRL (refS σ x) t
theorem refRS_snoc : ∀ (l : List Nb) (σ : FwSt) (x : Nb), refRS σ (l ++ [x]) = refS (refRS σ l) x
  | [], _, _ => rfl
  | y :: t, σ, x => refRS_snoc t (refS σ y) x
theorem refRL_snoc : ∀ (l : List Nb) (σ : FwSt) (x : Nb), refRL σ (l ++ [x]) = refRL σ l ++ refL (refRS σ l) x
  | [], σ, x => by show refL σ x ++ [] = [] ++ refL σ x; simp
  | y :: t, σ, x => by
    show refL σ y ++ refRL (refS σ y) (t ++ [x]) = (refL σ y ++ refRL (refS σ y) t) ++ _
    rw [refRL_snoc t (refS σ y) x, List.append_assoc]; rfl
theorem refS_len (σ : FwSt) (x : Nb) : (refS σ x).wt.length ≤ σ.wt.length + 1 ∧ (refS σ x).bf.length ≤ σ.bf.length + 1 := by
  unfold refS
  split
  · omega
  · split
    · omega
    · split
      · obtain ⟨-, -, k3⟩ := keepS_ep σ x
        refine ⟨by rw [k3]; omega, ?_⟩
        unfold keepS
        split
        · omega
        · split
          · exact kput_len_le _ _ _
          · omega
      · split
        · have h1 := take1_sum σ x
          have h2 := take1_bf σ x
          exact ⟨by omega, by rw [h2]; omega⟩
        · omega
theorem refL_len (σ : FwSt) (x : Nb) : (refL σ x).length ≤ σ.wt.length + 1 := by
  unfold refL
  split
  · simp
  · split
    · split
      · have h1 := take1_sum σ x; omega
      · simp
    · simp
theorem refRS_len : ∀ (l : List Nb) (σ : FwSt), (refRS σ l).wt.length ≤ σ.wt.length + l.length ∧ (refRS σ l).bf.length ≤ σ.bf.length + l.length
  | [], σ => by simp [refRS]
  | x :: t, σ => by
    have h1 := refRS_len t (refS σ x)
    have h2 := refS_len σ x
    show (refRS (refS σ x) t).wt.length ≤ _ ∧ (refRS (refS σ x) t).bf.length ≤ _
    rw [List.length_cons]
    omega
theorem refRL_len : ∀ (l : List Nb) (σ : FwSt), (refRL σ l).length ≤ l.length * (σ.wt.length + l.length)
  | [], σ => by simp [refRL]
  | x :: t, σ => by
    have h1 := refRL_len t (refS σ x)
    have h2 := refS_len σ x
    have h3 := refL_len σ x
    show (refL σ x ++ refRL (refS σ x) t).length ≤ _
    rw [List.length_append, List.length_cons]
    have h4 : t.length * ((refS σ x).wt.length + t.length) ≤ t.length * (σ.wt.length + 1 + t.length) := Nat.mul_le_mul_left _ (by omega)
    have h5 : (t.length + 1) * (σ.wt.length + (t.length + 1)) = t.length * (σ.wt.length + 1 + t.length) + (σ.wt.length + (t.length + 1)) := by
      rw [Nat.add_mul, Nat.one_mul]; congr 2; omega
    omega
/-- Move of the document. -/
def mvS (σ : FwSt) (t : Int) : FwSt := ⟨t, 1, [], σ.bf.filter (fun p => decide (t < p.1.1))⟩
def refMvS (σ : FwSt) (t : Int) : FwSt := if t ≤ σ.ep then σ else refRS (mvS σ t) (nowB t σ.bf)
def refMvL (σ : FwSt) (t : Int) : List Ms := if t ≤ σ.ep then [] else refRL (mvS σ t) (nowB t σ.bf)
/-- One by one, the document's Receive takes as take does. -/
theorem ref_takes : ∀ (l : List Nb) (σ : FwSt) (P : List Nb) (out : List Ms), EpL σ.ep P out σ.nx σ.wt → EpG σ.ep P σ.nx → (∀ x ∈ l, badB x = false ∧ x.e = σ.ep) → P.length + l.length ≤ 1000000 → refRS σ l = takeS σ l ∧ refRL σ l = takeL σ l
  | [], _, _, _, _, _, _, _ => ⟨rfl, rfl⟩
  | x :: t, σ, P, out, h, hg, hl, hP => by
    obtain ⟨hb, he⟩ := hl x (List.mem_cons_self ..)
    have h1 : 1 ≤ x.n := by unfold badB at hb; simp at hb; exact hb.2
    rw [List.length_cons] at hP
    obtain ⟨e1, e2⟩ := ref_take (h.none_of hg) hb he
    obtain ⟨a1, a2⟩ := h.take1 hg he h1 (by omega)
    have ee := take1_ep σ x
    rw [← ee] at a1 a2
    obtain ⟨b1, b2⟩ := ref_takes t (take1 σ x) _ _ a1 a2 (fun y hy => by rw [ee]; exact hl y (List.mem_cons_of_mem _ hy)) (by have := addP_len σ x P; omega)
    constructor
    · show refRS (refS σ x) t = takeS (take1 σ x) t
      rw [e1]; exact b1
    · show refL σ x ++ refRL (refS σ x) t = drain (putW σ x) ++ takeL (take1 σ x) t
      rw [e2, e1, b2]
/-- All new: all are added. -/
theorem addL_eq : ∀ (l : List Nb) (σ : FwSt) (P : List Nb) (out : List Ms), EpL σ.ep P out σ.nx σ.wt → EpG σ.ep P σ.nx → (∀ x ∈ l, x.e = σ.ep ∧ 1 ≤ x.n) → (∀ x ∈ l, ∀ y ∈ P, y.n ≠ x.n) → (l.map (·.n)).Nodup → P.length + l.length ≤ 1000000 → addL σ l P = P ++ l
  | [], _, _, _, _, _, _, _, _, _ => by simp [addL]
  | x :: t, σ, P, out, h, hg, hl, hd, hn, hP => by
    obtain ⟨he, h1⟩ := hl x (List.mem_cons_self ..)
    rw [List.length_cons] at hP
    simp only [List.map_cons, List.nodup_cons] at hn
    have hnew : newB σ x = true := by
      cases hb : newB σ x with
      | true => rfl
      | false =>
        obtain ⟨y, hy, e⟩ := addP_has (P := P) h he h1
        unfold addP at hy
        rw [hb] at hy
        exact absurd e (hd x (List.mem_cons_self ..) y hy)
    have ha : addP σ x P = P ++ [x] := by unfold addP; rw [hnew]; rfl
    obtain ⟨a1, a2⟩ := h.take1 hg he h1 (by omega)
    have ee := take1_ep σ x
    rw [← ee] at a1 a2
    rw [ha] at a1 a2
    have := addL_eq t (take1 σ x) (P ++ [x]) _ a1 a2 (fun y hy => by rw [ee]; exact hl y (List.mem_cons_of_mem _ hy)) (fun y hy z hz => by
      rcases List.mem_append.1 hz with hz | hz
      · exact hd y (List.mem_cons_of_mem _ hy) z hz
      · rw [List.mem_singleton.1 hz]; exact fun e => hn.1 (by rw [e]; exact List.mem_map_of_mem hy)) hn.2 (by simp; omega)
    show addL (take1 σ x) t (addP σ x P) = _
    rw [ha, this, List.append_assoc]; rfl
theorem EpL.perm {ep : Int} {P P' : List Nb} {out : List Ms} {nx : Int} {wt : List ((Int × Int) × Ms)} (h : EpL ep P out nx wt) (hp : P.Perm P') : EpL ep P' out nx wt :=
  ⟨fun x hx => h.pe x (hp.mem_iff.2 hx), fun x hx y hy e => h.pn x (hp.mem_iff.2 hx) y (hp.mem_iff.2 hy) e, h.nxe, fun k m hk => hp.mem_iff.1 (h.got k m hk), h.wn,
    fun p => (h.wm p).trans ⟨fun ⟨x, hx, h⟩ => ⟨x, hp.mem_iff.1 hx, h⟩, fun ⟨x, hx, h⟩ => ⟨x, hp.mem_iff.2 hx, h⟩⟩, by rw [← hp.length_eq]; exact h.len, by rw [← hp.length_eq]; exact h.few⟩
theorem EpG.perm {ep : Int} {P P' : List Nb} {nx : Int} (h : EpG ep P nx) (hp : P.Perm P') : EpG ep P' nx := fun x hx => h x (hp.mem_iff.2 hx)
/-- The two keep step. -/
structure FolI (i : Nat) (σ τ : FwSt) : Prop where
  ex : ∃ P out, FwOk P out σ ∧ EpL τ.ep P out τ.nx τ.wt ∧ EpG τ.ep P τ.nx ∧ P.length ≤ 64 + i
  ep : σ.ep = τ.ep
  bf : σ.bf = τ.bf
  rb : ∀ p ∈ σ.bf, rightB p.2 = true
theorem FolI.zero (e : Int) : FolI 0 (fw0 e) (fw0 e) := ⟨⟨[], [], fw0_ok e, EpL.nil e, EpG.nil e 1, by simp⟩, rfl, rfl, by simp [fw0]⟩
theorem FolI.nx {i : Nat} {σ τ : FwSt} (h : FolI i σ τ) : σ.nx = τ.nx := by
  obtain ⟨P, out, hF, h1, h2, -⟩ := h.ex
  have a := hF.ep.nxe
  have b := h1.nxe
  rw [a, b]
theorem FolI.marks {i : Nat} {σ τ : FwSt} (h : FolI i σ τ) : marksL σ = marksL τ := by
  have hn := h.nx
  obtain ⟨P, out, hF, h1, h2, -⟩ := h.ex
  have a := hF.ep.len
  have b := h1.len
  have : σ.wt.length = τ.wt.length := by omega
  unfold marksL
  rw [h.ep, hn, this, h.bf]
theorem FolI.wl {i : Nat} {σ τ : FwSt} (h : FolI i σ τ) (hi : i ≤ 1000) : σ.wt.length ≤ 9999 ∧ τ.wt.length ≤ 9999 ∧ σ.bf.length ≤ 64 ∧ τ.bf.length ≤ 64 ∧ (σ.bf.map (·.1)).Nodup := by
  obtain ⟨P, out, hF, h1, h2, h3⟩ := h.ex
  have a := hF.ep.len
  have b := h1.len
  have c := hF.bl
  exact ⟨by omega, by omega, c, by rw [← h.bf]; exact c, hF.bn⟩
theorem FolI.recv {i : Nat} {σ τ : FwSt} (h : FolI i σ τ) (hi : i ≤ 1000) (x : Nb) : recvE σ x = recvE τ x ∧ recvL σ x = refL τ x ∧ FolI (i + 1) (recvS σ x) (refS τ x) ∧ (recvL σ x).length ≤ 100000 := by
  have hnx := h.nx
  obtain ⟨⟨P, out, hF, h1, h2, h3⟩, he, hb, hr⟩ := h
  have hE : recvE σ x = recvE τ x := by unfold recvE; rw [he]
  refine ⟨hE, ?_⟩
  unfold recvL recvS refL refS
  cases hbad : badB x with
  | true => exact ⟨rfl, ⟨⟨P, out, hF, h1, h2, by omega⟩, he, hb, hr⟩, by simp⟩
  | false =>
    simp only [Bool.false_eq_true, if_false]
    have hrb : rightB x.m = true ∧ 1 ≤ x.n := by unfold badB at hbad; simpa using hbad
    by_cases c1 : x.e < σ.ep
    · rw [if_pos c1, if_neg (show ¬ x.e = σ.ep by omega), if_pos (show x.e < τ.ep by omega), if_neg (show ¬ x.e = τ.ep by omega)]
      exact ⟨rfl, ⟨⟨P, out, hF, h1, h2, by omega⟩, he, hb, hr⟩, by simp⟩
    · by_cases c2 : σ.ep < x.e
      · rw [if_neg c1, if_neg (show ¬ x.e = σ.ep by omega), if_pos c2, if_neg (show ¬ x.e < τ.ep by omega), if_neg (show ¬ x.e = τ.ep by omega), if_pos (show τ.ep < x.e by omega)]
        obtain ⟨k1, k2, k3⟩ := keepS_ep σ x
        obtain ⟨l1, l2, l3⟩ := keepS_ep τ x
        have hbf : (keepS σ x).bf = (keepS τ x).bf := by
          unfold keepS
          rw [hb]
          split
          · exact hb
          · split
            · rfl
            · exact hb
        refine ⟨rfl, ⟨⟨P, out, hF.keep x c2 hrb.2, by rw [l1, l2, l3]; exact h1, by rw [l1, l2]; exact h2, by omega⟩, by rw [k1, l1]; exact he, hbf, fun p hp => ?_⟩, by simp⟩
        unfold keepS at hp
        split at hp
        · exact hr p hp
        · split at hp
          · rcases mem_kput hp with rfl | hp
            · exact hrb.1
            · exact hr p hp
          · exact hr p hp
      · have hee : x.e = σ.ep := by omega
        have hee2 : x.e = τ.ep := by omega
        rw [if_neg c1, if_pos hee, if_neg c2, if_neg (show ¬ x.e < τ.ep by omega), if_pos hee2, if_neg (show ¬ τ.ep < x.e by omega)]
        have hF' := hF.take x hee hrb.2 (by omega)
        have e3 : takeL σ [x] = drain (putW σ x) := by show drain (putW σ x) ++ [] = _; rw [List.append_nil]
        have e4 : takeS σ [x] = take1 σ x := rfl
        obtain ⟨t1, t2⟩ := h1.take1 h2 hee2 hrb.2 (by omega)
        obtain ⟨r1, r2⟩ := ref_take (h1.none_of h2) hbad hee2
        unfold refS at r1
        unfold refL at r2
        rw [hbad] at r1 r2
        simp only [Bool.false_eq_true, if_false] at r1 r2
        rw [if_neg (show ¬ x.e < τ.ep by omega), if_neg (show ¬ τ.ep < x.e by omega)] at r1
        rw [if_pos hee2] at r2
        rw [r1, r2]
        have hadd : addP τ x P = addP σ x P := by unfold addP; rw [newB_congr hF.ep h1 he hnx hee]
        rw [hadd] at t1 t2
        have hFe := hF'.ep
        have hFg := hF'.gap
        rw [e3, e4] at hF'
        rw [e3] at hFe
        have hep : (takeS σ [x]).ep = τ.ep := (take1_ep σ x).trans he
        have hun := EpL.unique (P := addP σ x P) (P' := addP σ x P) (by rw [hep] at hFe; exact hFe) (by rw [hep] at hFg; exact hFg) t1 t2 (fun _ => Iff.rfl)
        have hout := List.append_cancel_left hun.2
        have ew := take1_ep τ x
        refine ⟨by rw [e3]; exact hout, ⟨⟨addP σ x P, out ++ drain (putW σ x), by rw [e4]; exact hF', by rw [ew, hout]; exact t1, by rw [ew]; exact t2, Nat.le_trans (addP_len _ _ _) (by omega)⟩, ?_, ?_, ?_⟩, ?_⟩
        · rw [hep, ew]
        · rw [e4, take1_bf, take1_bf]; exact hb
        · rw [e4, take1_bf]; exact hr
        · rw [e3]
          have a := hF'.ep.len
          have b := addP_len σ x P
          simp at a
          omega
theorem FolI.move {i : Nat} {σ τ : FwSt} (h : FolI i σ τ) (t : Int) : moveE σ t = moveE τ t ∧ moveX σ t = refMvL τ t ∧ FolI (i + 1) (moveT σ t) (refMvS τ t) ∧ (moveX σ t).length ≤ 100000 := by
  obtain ⟨⟨P, out, hF, h1, h2, h3⟩, he, hb, hr⟩ := h
  have hE : moveE σ t = moveE τ t := by unfold moveE; rw [he]
  refine ⟨hE, ?_⟩
  unfold moveX moveT refMvL refMvS
  rw [← he]
  by_cases c1 : t ≤ σ.ep
  · simp only [if_pos c1]
    exact ⟨by first | rfl | trivial, ⟨⟨P, out, hF, h1, h2, by omega⟩, he, hb, hr⟩, by simp⟩
  · simp only [if_neg c1]
    have hms : mvS τ t = relS (entS σ t) := by unfold mvS relS entS; rw [hb]
    rw [hms, ← hb]
    have hmem : ∀ x ∈ nowB t σ.bf, badB x = false ∧ x.e = t ∧ 1 ≤ x.n := fun x hx => by
      obtain ⟨p, hp, rfl⟩ := List.mem_map.1 hx
      obtain ⟨hp1, hp2⟩ := List.mem_filter.1 hp
      have h1n := (hF.bk p hp1).2
      have e : (nbOf p).e = t := of_decide_eq_true hp2
      refine ⟨?_, e, h1n⟩
      unfold badB
      have hrr : rightB (nbOf p).m = true := hr p hp1
      have hn : ¬ (nbOf p).n < 1 := by show ¬ p.1.2 < 1; omega
      rw [hrr]; simp [hn]
    have hnl : (nowB t σ.bf).length ≤ 64 := Nat.le_trans (nowB_len _ _) hF.bl
    have hperm : (relL (entS σ t)).Perm (nowB t σ.bf) := srtN_perm _
    have hnd := nowB_nodup (ep := t) hF.bn
    have H0 : EpL (relS (entS σ t)).ep [] [] (relS (entS σ t)).nx (relS (entS σ t)).wt := EpL.nil t
    have G0 : EpG (relS (entS σ t)).ep [] (relS (entS σ t)).nx := EpG.nil t 1
    obtain ⟨q1, q2⟩ := ref_takes (nowB t σ.bf) (relS (entS σ t)) [] [] H0 G0 (fun x hx => ⟨(hmem x hx).1, (hmem x hx).2.1⟩) (by simp; omega)
    rw [q1, q2]
    have A := addL_eq (nowB t σ.bf) (relS (entS σ t)) [] [] H0 G0 (fun x hx => (hmem x hx).2) (by simp) hnd (by simp; omega)
    have B := addL_eq (relL (entS σ t)) (relS (entS σ t)) [] [] H0 G0 (fun x hx => (hmem x (hperm.mem_iff.1 hx)).2) (by simp) ((hperm.map (·.n)).nodup_iff.2 hnd) (by rw [hperm.length_eq]; simp; omega)
    obtain ⟨t1, t2, t3, t4, -⟩ := EpL.takeL (nowB t σ.bf) (relS (entS σ t)) [] [] H0 G0 (fun x hx => (hmem x hx).2) (by simp; omega)
    rw [A] at t1 t2
    simp only [List.nil_append] at t1 t2
    obtain ⟨f1, f2, f3, f4, f5, f6⟩ := hF.move t
    have hmp : moveP σ t = relL (entS σ t) := by unfold moveP; rw [B]; rfl
    rw [hmp] at f1
    have g1 := f1.ep
    have g2 := f1.gap
    rw [f2] at g1 g2
    have t1' := t1.perm hperm.symm
    have t2' := t2.perm hperm.symm
    have hun := EpL.unique g1 g2 t1' t2' (fun _ => Iff.rfl)
    have e5 : (takeS (relS (entS σ t)) (nowB t σ.bf)).ep = t := t3
    refine ⟨hun.2, ⟨⟨relL (entS σ t), moveL σ t, f1, ?_, ?_, by rw [hperm.length_eq]; omega⟩, ?_, ?_, ?_⟩, ?_⟩
    · rw [e5, hun.2]; exact t1'
    · rw [e5]; exact t2'
    · rw [f2, e5]
    · rw [f3]; exact t4.symm
    · rw [f3]; exact fun p hp => hr p (List.mem_filter.1 hp).1
    · have a := g1.len
      have b := hperm.length_eq
      omega
end Go.Proofs.Ytokljdkeegdniaa
