/-
  What release makes of the buffer, plain.
-/
import Derived.Test.YtokljdkeegdniaaPlainF
namespace Go.Proofs.Ytokljdkeegdniaa
open Go.RowKit

def nbOf (p : (Int × Int) × Ms) : Nb := ⟨p.1.1, p.1.2, p.2⟩
/-- .. rising by their numbers. -/
def RiseN (l : List Nb) : Prop := l.Pairwise (fun x y => x.n < y.n)
theorem riseN_unique : ∀ {a b : List Nb}, a.Perm b → RiseN a → RiseN b → a = b
  | [], b, hp, _, _ => by rw [List.nil_perm.1 hp]
  | x :: t, [], hp, _, _ => by have := hp.length_eq; simp at this
  | x :: t, y :: u, hp, ha, hb => by
    have hxy : x = y := by
      refine Classical.byContradiction fun hne => ?_
      have h1 : x ∈ u := by rcases List.mem_cons.1 (hp.mem_iff.1 (List.mem_cons_self ..)) with e | e; exact absurd e hne; exact e
      have h2 : y ∈ t := by rcases List.mem_cons.1 (hp.mem_iff.2 (List.mem_cons_self ..)) with e | e; exact absurd e.symm hne; exact e
      have p1 : y.n < x.n := List.rel_of_pairwise_cons hb h1
      have p2 : x.n < y.n := List.rel_of_pairwise_cons ha h2
      omega
    subst hxy
    rw [riseN_unique (List.Perm.cons_inv hp) (List.Pairwise.of_cons ha) (List.Pairwise.of_cons hb)]
def insN (m : Nb) : List Nb → List Nb
  | [] => [m]
  | x :: t => if x.n < m.n then x :: insN m t else m :: x :: t
def srtN : List Nb → List Nb
  | [] => []
  | m :: t => insN m (srtN t)
theorem insN_perm (m : Nb) : ∀ l, (insN m l).Perm (m :: l)
  | [] => List.Perm.refl _
  | x :: t => by
    unfold insN; split
    · exact ((insN_perm m t).cons x).trans (List.Perm.swap ..)
    · exact List.Perm.refl _
theorem srtN_perm : ∀ l, (srtN l).Perm l
  | [] => List.Perm.refl _
  | m :: t => (insN_perm m _).trans ((srtN_perm t).cons m)
theorem insN_rise {m : Nb} : ∀ {l : List Nb}, RiseN l → (∀ y ∈ l, y.n ≠ m.n) → RiseN (insN m l)
  | [], _, _ => by simp [insN, RiseN]
  | x :: t, h, hk => by
    unfold insN
    have hx := hk x (List.mem_cons_self ..)
    split
    · rename_i hlt
      refine List.pairwise_cons.2 ⟨fun y hy => ?_, insN_rise (List.Pairwise.of_cons h) (fun y hy => hk y (List.mem_cons_of_mem _ hy))⟩
      rcases List.mem_cons.1 ((insN_perm m t).mem_iff.1 hy) with e | e
      · rw [e]; exact hlt
      · exact List.rel_of_pairwise_cons h e
    · rename_i hlt
      have hmx : m.n < x.n := by omega
      refine List.pairwise_cons.2 ⟨fun y hy => ?_, h⟩
      rcases List.mem_cons.1 hy with e | e
      · rw [e]; exact hmx
      · have h1 : x.n < y.n := List.rel_of_pairwise_cons h e
        show m.n < y.n
        omega
theorem srtN_rise : ∀ {l : List Nb}, (l.map (·.n)).Nodup → RiseN (srtN l)
  | [], _ => by simp [srtN, RiseN]
  | m :: t, hn => by
    simp only [List.map_cons, List.nodup_cons] at hn
    refine insN_rise (srtN_rise hn.2) (fun y hy e => hn.1 ?_)
    rw [← e]; exact List.mem_map_of_mem ((srtN_perm t).mem_iff.1 hy)
theorem srtN_eq {a b : List Nb} (hp : a.Perm b) (ha : RiseN a) (hn : (b.map (·.n)).Nodup) : a = srtN b := (riseN_unique ((srtN_perm b).trans hp.symm) (srtN_rise hn) ha).symm

theorem kdel_filter {K V : Type} [DecidableEq K] {k : K} : ∀ {kv : List (K × V)}, (kv.map (·.1)).Nodup → kdel k kv = kv.filter (fun p => !decide (p.1 = k))
  | [], _ => rfl
  | p :: r, hn => by
    simp only [List.map_cons, List.nodup_cons] at hn
    unfold kdel
    by_cases hp : p.1 = k
    · rw [if_pos hp, List.filter_cons_of_neg (by simp [hp])]
      refine (List.filter_eq_self.2 fun q hq => ?_).symm
      have : q.1 ≠ k := fun e => hn.1 (by rw [hp, ← e]; exact List.mem_map_of_mem hq)
      simp [this]
    · rw [if_neg hp, List.filter_cons_of_pos (by simp [hp]), kdel_filter hn.2]
/-- What is buffered still, once those of got came. -/
def curB (ep : Int) (got bf : List ((Int × Int) × Ms)) : List ((Int × Int) × Ms) := bf.filter (fun p => decide (ep < p.1.1) || !decide (p.1 ∈ got.map (·.1)))
/-- .. and what was gathered. -/
def nowB (ep : Int) (got : List ((Int × Int) × Ms)) : List Nb := (got.filter (fun p => decide (p.1.1 = ep))).map nbOf
theorem curB_nil (ep : Int) (bf : List ((Int × Int) × Ms)) : curB ep [] bf = bf := List.filter_eq_self.2 (fun p _ => by simp)
theorem curB_nodup {ep : Int} {got bf : List ((Int × Int) × Ms)} (h : (bf.map (·.1)).Nodup) : ((curB ep got bf).map (·.1)).Nodup := h.sublist ((List.filter_sublist).map _)
theorem curB_keep {ep : Int} {got bf : List ((Int × Int) × Ms)} {p : (Int × Int) × Ms} (h : ep < p.1.1) : curB ep (got ++ [p]) bf = curB ep got bf := by
  unfold curB
  refine List.filter_congr fun q _ => ?_
  by_cases hq : q.1 = p.1
  · rw [hq]; simp [h]
  · have : (q.1 ∈ (got ++ [p]).map (·.1)) = (q.1 ∈ got.map (·.1)) := by
      rw [List.map_append, List.mem_append]; simp [hq]
    simp only [this]
theorem curB_del {ep : Int} {got bf : List ((Int × Int) × Ms)} {p : (Int × Int) × Ms} (hn : (bf.map (·.1)).Nodup) (h : ¬ ep < p.1.1) : kdel p.1 (curB ep got bf) = curB ep (got ++ [p]) bf := by
  rw [kdel_filter (curB_nodup hn)]
  unfold curB
  rw [List.filter_filter]
  refine List.filter_congr fun q _ => ?_
  by_cases hq : q.1 = p.1
  · rw [hq]; simp [h]
  · have : (q.1 ∈ (got ++ [p]).map (·.1)) = (q.1 ∈ got.map (·.1)) := by
      rw [List.map_append, List.mem_append]; simp [hq]
    simp only [this]
    simp [hq]
theorem curB_end {ep : Int} {got bf : List ((Int × Int) × Ms)} (h : got.Perm bf) : curB ep got bf = bf.filter (fun p => decide (ep < p.1.1)) := by
  unfold curB
  refine List.filter_congr fun q hq => ?_
  have : q.1 ∈ got.map (·.1) := List.mem_map_of_mem (h.mem_iff.2 hq)
  simp only [this]; simp
theorem nowB_yes {ep : Int} {got : List ((Int × Int) × Ms)} {p : (Int × Int) × Ms} (h : p.1.1 = ep) : nowB ep (got ++ [p]) = nowB ep got ++ [nbOf p] := by
  unfold nowB; rw [List.filter_append, List.map_append, List.filter_cons_of_pos (by simp [h])]; rfl
theorem nowB_no {ep : Int} {got : List ((Int × Int) × Ms)} {p : (Int × Int) × Ms} (h : p.1.1 ≠ ep) : nowB ep (got ++ [p]) = nowB ep got := by
  unfold nowB; rw [List.filter_append, List.map_append, List.filter_cons_of_neg (by simp [h])]; simp
theorem nowB_len (ep : Int) (got : List ((Int × Int) × Ms)) : (nowB ep got).length ≤ got.length := by
  unfold nowB; rw [List.length_map]; exact List.length_filter_le _ _
theorem nowB_nodup {ep : Int} {bf : List ((Int × Int) × Ms)} (hn : (bf.map (·.1)).Nodup) : ((nowB ep bf).map (·.n)).Nodup := by
  induction bf with
  | nil => simp [nowB]
  | cons p r ih =>
    simp only [List.map_cons, List.nodup_cons] at hn
    unfold nowB
    by_cases hp : p.1.1 = ep
    · rw [List.filter_cons_of_pos (by simp [hp])]
      simp only [List.map_cons, List.nodup_cons]
      refine ⟨fun hm => hn.1 ?_, ih hn.2⟩
      obtain ⟨x, hx, e⟩ := List.mem_map.1 hm
      obtain ⟨q, hq, rfl⟩ := List.mem_map.1 hx
      obtain ⟨hq1, hq2⟩ := List.mem_filter.1 hq
      have e1 : q.1.1 = ep := by simpa using hq2
      have e2 : q.1.2 = p.1.2 := e
      have : q.1 = p.1 := Prod.ext (e1.trans hp.symm) e2
      rw [← this]; exact List.mem_map_of_mem hq1
    · rw [List.filter_cons_of_neg (by simp [hp])]
      exact ih hn.2
def relS (σ : FwSt) : FwSt := { σ with bf := σ.bf.filter (fun p => decide (σ.ep < p.1.1)) }
def relL (σ : FwSt) : List Nb := srtN (nowB σ.ep σ.bf)
theorem relL_eq {σ : FwSt} {got : List ((Int × Int) × Ms)} {L : List Nb} (hn : (σ.bf.map (·.1)).Nodup) (hg : got.Perm σ.bf) (hp : L.Perm (nowB σ.ep got)) (hr : RiseN L) : L = relL σ :=
  srtN_eq (hp.trans ((hg.filter _).map _)) hr (nowB_nodup hn)
theorem relL_len (σ : FwSt) : (relL σ).length ≤ σ.bf.length := by
  unfold relL; rw [(srtN_perm _).length_eq]; exact nowB_len _ _
theorem relS_nodup {σ : FwSt} (h : (σ.bf.map (·.1)).Nodup) : ((relS σ).bf.map (·.1)).Nodup := h.sublist ((List.filter_sublist).map _)
theorem relS_len (σ : FwSt) : (relS σ).bf.length ≤ σ.bf.length := List.length_filter_le _ _
/-- Move, to an epoch ahead. -/
def entS (σ : FwSt) (e : Int) : FwSt := ⟨e, 1, [], σ.bf⟩
def moveS (σ : FwSt) (e : Int) : FwSt := takeS (relS (entS σ e)) (relL (entS σ e))
def moveL (σ : FwSt) (e : Int) : List Ms := takeL (relS (entS σ e)) (relL (entS σ e))
end Go.Proofs.Ytokljdkeegdniaa
