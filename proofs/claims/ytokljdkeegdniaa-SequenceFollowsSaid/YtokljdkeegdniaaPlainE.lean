/-
  Within one epoch: whatever came, in whatever order, what was taken is the run of numbers from 1 on.
-/
import Derived.Test.YtokljdkeegdniaaPlainR
namespace Go.Proofs.Ytokljdkeegdniaa
open Go.RowKit

theorem kput_new {K V : Type} [DecidableEq K] {k : K} {v : V} {kv : List (K × V)} (h : kfind k kv = none) : kput k v kv = kv ++ [(k, v)] := by
  induction kv with
  | nil => rfl
  | cons p r ih =>
    unfold kfind at h; unfold kput
    by_cases hp : p.1 = k
    · rw [if_pos hp] at h; cases h
    · rw [if_neg hp] at h ⊢; rw [ih h]; rfl
theorem mem_kdel_iff {K V : Type} [DecidableEq K] {k : K} {kv : List (K × V)} (hn : (kv.map (·.1)).Nodup) {p : K × V} : p ∈ kdel k kv ↔ p ∈ kv ∧ p.1 ≠ k := by
  rw [kdel_filter hn, List.mem_filter]; simp
def kyOf (x : Nb) : (Int × Int) × Ms := ((x.e, x.n), x.m)
/-- P: what came, of the epoch ep, each number once; out: what was taken of it; nx and wt: the number that is waited for, what waits. -/
structure EpL (ep : Int) (P : List Nb) (out : List Ms) (nx : Int) (wt : List ((Int × Int) × Ms)) : Prop where
  pe : ∀ x ∈ P, x.e = ep ∧ 1 ≤ x.n
  pn : ∀ x ∈ P, ∀ y ∈ P, x.n = y.n → x = y
  nxe : nx = out.length + 1
  got : ∀ (k : Nat) (m : Ms), out[k]? = some m → ⟨ep, k + 1, m⟩ ∈ P
  wn : (wt.map (·.1)).Nodup
  wm : ∀ p, p ∈ wt ↔ ∃ x ∈ P, nx ≤ x.n ∧ p = kyOf x
  len : out.length + wt.length = P.length
  few : P.length ≤ 1000000
def EpG (ep : Int) (P : List Nb) (nx : Int) : Prop := ∀ x ∈ P, x.n ≠ nx
theorem EpL.nil (ep : Int) : EpL ep [] [] 1 [] := ⟨by simp, by simp, by simp, by simp, by simp, by simp, by simp, by simp⟩
theorem EpG.nil (ep nx : Int) : EpG ep [] nx := by simp [EpG]
theorem EpL.none_of {ep : Int} {P : List Nb} {out : List Ms} {nx : Int} {wt : List ((Int × Int) × Ms)} (h : EpL ep P out nx wt) (hg : EpG ep P nx) : kfind (ep, nx) wt = none := by
  rw [kfind_none]
  intro hm
  obtain ⟨p, hp, e⟩ := List.mem_map.1 hm
  obtain ⟨x, hx, _, rfl⟩ := (h.wm p).1 hp
  exact hg x hx (congrArg Prod.snd e)
theorem EpL.gap_of {ep : Int} {P : List Nb} {out : List Ms} {nx : Int} {wt : List ((Int × Int) × Ms)} (h : EpL ep P out nx wt) (hg : kfind (ep, nx) wt = none) : EpG ep P nx := by
  intro x hx e
  rw [kfind_none] at hg
  refine hg ?_
  have : kyOf x ∈ wt := (h.wm _).2 ⟨x, hx, by omega, rfl⟩
  have e2 : (kyOf x).1 = (ep, nx) := by unfold kyOf; rw [(h.pe x hx).1, e]
  rw [← e2]; exact List.mem_map_of_mem this
/-- One that is here already. -/
theorem EpL.has {ep : Int} {P : List Nb} {out : List Ms} {nx : Int} {wt : List ((Int × Int) × Ms)} (h : EpL ep P out nx wt) {n : Int} (h1 : 1 ≤ n) (hh : n < nx ∨ (kfind (ep, n) wt).isSome = true) : ∃ y ∈ P, y.n = n := by
  rcases hh with hh | hh
  · have hk : (n - 1).toNat < out.length := by have := h.nxe; omega
    refine ⟨_, h.got (n - 1).toNat _ (List.getElem?_eq_getElem hk), ?_⟩
    show (((n - 1).toNat : Nat) : Int) + 1 = n
    omega
  · obtain ⟨v, hv⟩ := Option.isSome_iff_exists.1 hh
    obtain ⟨x, hx, _, e⟩ := (h.wm _).1 (kfind_mem hv)
    refine ⟨x, hx, ?_⟩
    unfold kyOf at e
    simp only [Prod.mk.injEq] at e
    exact e.1.2.symm
theorem EpL.step {P : List Nb} {out : List Ms} {σ : FwSt} {m : Ms} (h : EpL σ.ep P out σ.nx σ.wt) (hf : kfind (σ.ep, σ.nx) σ.wt = some m) : EpL σ.ep P (out ++ [m]) (stepD σ).nx (stepD σ).wt := by
  have hnx : (stepD σ).nx = σ.nx + 1 := by
    show IntKind.u32.wrap (σ.nx + 1) = _
    have h1 := h.nxe
    have h2 := h.len
    have h3 := h.few
    simp only [IntKind.wrap, IntKind.bits, IntKind.signed]
    simp; omega
  obtain ⟨x, hx, hxn, e⟩ := (h.wm _).1 (kfind_mem hf)
  have hxe : x = ⟨σ.ep, out.length + 1, m⟩ := by
    unfold kyOf at e
    simp only [Prod.mk.injEq] at e
    obtain ⟨⟨e1, e2⟩, e3⟩ := e
    have := h.nxe
    obtain ⟨a, b, c⟩ := x
    simp only at e1 e2 e3
    subst e1; subst e3
    rw [← e2, this]
  refine ⟨h.pe, h.pn, ?_, ?_, nodup_kdel h.wn, ?_, ?_, h.few⟩
  · rw [hnx, h.nxe]; simp
  · intro k m' hk
    by_cases hlt : k < out.length
    · rw [List.getElem?_append_left hlt] at hk
      exact h.got k m' hk
    · have hle : k < (out ++ [m]).length := (List.getElem?_eq_some_iff.1 hk).1
      have hk' : k = out.length := by simp at hle; omega
      subst hk'
      rw [List.getElem?_append_right (Nat.le_refl _)] at hk
      simp at hk
      subst hk
      rw [← hxe]; exact hx
  · intro p
    show p ∈ kdel _ _ ↔ _
    rw [mem_kdel_iff h.wn, h.wm, hnx]
    constructor
    · rintro ⟨⟨y, hy, hyn, rfl⟩, hne⟩
      refine ⟨y, hy, ?_, rfl⟩
      have : y.n ≠ σ.nx := fun e => hne (by unfold kyOf; rw [(h.pe y hy).1, e])
      omega
    · rintro ⟨y, hy, hyn, rfl⟩
      refine ⟨⟨y, hy, by omega, rfl⟩, fun e => ?_⟩
      unfold kyOf at e
      simp only [Prod.mk.injEq] at e
      omega
  · have h1 := kdel_len hf
    have h2 := h.len
    show (out ++ [m]).length + (kdel _ _).length = _
    simp; omega
theorem EpL.drainF {P : List Nb} : ∀ (n : Nat) (σ : FwSt) (out : List Ms), σ.wt.length = n → EpL σ.ep P out σ.nx σ.wt →
    EpL σ.ep P (out ++ drainF n σ) (stK σ (drainF n σ).length).nx (stK σ (drainF n σ).length).wt ∧ EpG σ.ep P (stK σ (drainF n σ).length).nx
  | 0, σ, out, hl, h => by
    have hn : σ.wt = [] := List.length_eq_zero_iff.1 hl
    refine ⟨by rw [show Go.Proofs.Ytokljdkeegdniaa.drainF 0 σ = [] from rfl, List.append_nil]; exact h, h.gap_of (by rw [hn]; rfl)⟩
  | n + 1, σ, out, hl, h => by
    cases hf : kfind (σ.ep, σ.nx) σ.wt with
    | none =>
      have e : Go.Proofs.Ytokljdkeegdniaa.drainF (n + 1) σ = [] := by rw [Go.Proofs.Ytokljdkeegdniaa.drainF, hf]
      rw [e, List.append_nil]
      exact ⟨h, h.gap_of hf⟩
    | some v =>
      have e : Go.Proofs.Ytokljdkeegdniaa.drainF (n + 1) σ = v :: Go.Proofs.Ytokljdkeegdniaa.drainF n (stepD σ) := by rw [Go.Proofs.Ytokljdkeegdniaa.drainF, hf]
      have hl2 : (stepD σ).wt.length = n := by have := kdel_len hf; show (kdel (σ.ep, σ.nx) σ.wt).length = n; omega
      have := EpL.drainF n (stepD σ) (out ++ [v]) hl2 (h.step hf)
      rw [e, List.length_cons, stK_succ]
      rw [List.append_assoc] at this
      exact this
theorem EpL.put {P : List Nb} {out : List Ms} {σ : FwSt} {x : Nb} (h : EpL σ.ep P out σ.nx σ.wt) (he : x.e = σ.ep) (h1 : 1 ≤ x.n) (hk : kfind (x.e, x.n) σ.wt = none) (hn : σ.nx ≤ x.n) (hP : P.length < 1000000) :
    EpL σ.ep (P ++ [x]) out σ.nx (kput (x.e, x.n) x.m σ.wt) := by
  have hnew : ∀ y ∈ P, y.n ≠ x.n := fun y hy e => by
    have : kyOf y ∈ σ.wt := (h.wm _).2 ⟨y, hy, by omega, rfl⟩
    have e2 : (kyOf y).1 = (x.e, x.n) := by unfold kyOf; rw [(h.pe y hy).1, he, e]
    rw [kfind_none] at hk
    exact hk (by rw [← e2]; exact List.mem_map_of_mem this)
  refine ⟨?_, ?_, h.nxe, ?_, nodup_kput h.wn, ?_, ?_, ?_⟩
  · intro y hy
    rcases List.mem_append.1 hy with hy | hy
    · exact h.pe y hy
    · rw [List.mem_singleton.1 hy]; exact ⟨he, h1⟩
  · intro y hy z hz e
    rcases List.mem_append.1 hy with hy | hy <;> rcases List.mem_append.1 hz with hz | hz
    · exact h.pn y hy z hz e
    · rw [List.mem_singleton.1 hz] at e; exact absurd e (hnew y hy)
    · rw [List.mem_singleton.1 hy] at e; exact absurd e.symm (hnew z hz)
    · rw [List.mem_singleton.1 hy, List.mem_singleton.1 hz]
  · exact fun k m hm => List.mem_append_left _ (h.got k m hm)
  · intro p
    rw [kput_new hk, List.mem_append, h.wm]
    constructor
    · rintro (⟨y, hy, hyn, rfl⟩ | hp)
      · exact ⟨y, List.mem_append_left _ hy, hyn, rfl⟩
      · exact ⟨x, by simp, hn, by rw [List.mem_singleton.1 hp]; rfl⟩
    · rintro ⟨y, hy, hyn, rfl⟩
      rcases List.mem_append.1 hy with hy | hy
      · exact .inl ⟨y, hy, hyn, rfl⟩
      · rw [List.mem_singleton.1 hy]; exact .inr (by simp [kyOf])
  · rw [kput_new hk]; have := h.len; simp; omega
  · simp; omega
/-- Is it new? -/
def newB (σ : FwSt) (x : Nb) : Bool := !(kfind (x.e, x.n) σ.wt).isSome && decide (σ.nx ≤ x.n)
def addP (σ : FwSt) (x : Nb) (P : List Nb) : List Nb := if newB σ x then P ++ [x] else P
theorem newB_false {σ : FwSt} {x : Nb} (h : newB σ x = false) : putW σ x = σ := by
  unfold newB at h; unfold putW
  by_cases hk : (kfind (x.e, x.n) σ.wt).isSome = true
  · rw [if_pos hk]
  · rw [if_neg hk]
    have hk' : (kfind (x.e, x.n) σ.wt).isSome = false := by simpa using hk
    rw [hk'] at h
    simp at h
    rw [if_neg (by omega)]
theorem newB_true {σ : FwSt} {x : Nb} (h : newB σ x = true) : kfind (x.e, x.n) σ.wt = none ∧ σ.nx ≤ x.n ∧ putW σ x = { σ with wt := kput (x.e, x.n) x.m σ.wt } := by
  unfold newB at h
  simp at h
  refine ⟨h.1, h.2, ?_⟩
  unfold putW
  rw [h.1, if_neg (by simp), if_pos h.2]
theorem drain_none {σ : FwSt} (h : kfind (σ.ep, σ.nx) σ.wt = none) : drain σ = [] := by
  unfold drain
  cases hl : σ.wt.length with
  | zero => rfl
  | succ n => rw [drainF, h]
theorem EpL.take1 {P : List Nb} {out : List Ms} {σ : FwSt} {x : Nb} (h : EpL σ.ep P out σ.nx σ.wt) (hg : EpG σ.ep P σ.nx) (he : x.e = σ.ep) (h1 : 1 ≤ x.n) (hP : P.length < 1000000) :
    EpL σ.ep (addP σ x P) (out ++ drain (putW σ x)) (take1 σ x).nx (take1 σ x).wt ∧ EpG σ.ep (addP σ x P) (take1 σ x).nx := by
  unfold addP
  cases hb : newB σ x with
  | false =>
    have e := newB_false hb
    have e2 : drain σ = [] := drain_none (h.none_of hg)
    unfold Go.Proofs.Ytokljdkeegdniaa.take1
    rw [e, e2, List.append_nil]
    exact ⟨h, hg⟩
  | true =>
    obtain ⟨a1, a2, a3⟩ := newB_true hb
    have := EpL.drainF _ (putW σ x) out rfl (P := P ++ [x]) (by rw [a3]; exact h.put he h1 a1 a2 hP)
    have ep : (putW σ x).ep = σ.ep := by rw [a3]
    rw [ep] at this
    exact this
theorem take1_ep (σ : FwSt) (x : Nb) : (take1 σ x).ep = σ.ep := by
  unfold take1; rw [stK_ep]; unfold putW; split
  · rfl
  · split <;> rfl
theorem take1_bf (σ : FwSt) (x : Nb) : (take1 σ x).bf = σ.bf := by
  unfold take1; rw [stK_bf]; unfold putW; split
  · rfl
  · split <;> rfl
/-- One that came is there behind. -/
theorem addP_has {P : List Nb} {out : List Ms} {σ : FwSt} {x : Nb} (h : EpL σ.ep P out σ.nx σ.wt) (he : x.e = σ.ep) (h1 : 1 ≤ x.n) : ∃ y ∈ addP σ x P, y.n = x.n := by
  unfold addP
  cases hb : newB σ x with
  | true => exact ⟨x, by simp, rfl⟩
  | false =>
    refine h.has h1 ?_
    unfold newB at hb
    by_cases hk : (kfind (x.e, x.n) σ.wt).isSome = true
    · rw [← he]; exact .inr hk
    · have hk' : (kfind (x.e, x.n) σ.wt).isSome = false := by simpa using hk
      rw [hk'] at hb
      simp at hb
      exact .inl hb
theorem addP_sub {σ : FwSt} {x y : Nb} {P : List Nb} (h : y ∈ addP σ x P) : y ∈ P ∨ y = x := by
  unfold addP at h
  split at h
  · rcases List.mem_append.1 h with h | h
    · exact .inl h
    · exact .inr (List.mem_singleton.1 h)
  · exact .inl h
theorem addP_mono {σ : FwSt} {x y : Nb} {P : List Nb} (h : y ∈ P) : y ∈ addP σ x P := by
  unfold addP; split
  · exact List.mem_append_left _ h
  · exact h
theorem addP_len (σ : FwSt) (x : Nb) (P : List Nb) : (addP σ x P).length ≤ P.length + 1 := by
  unfold addP; split <;> simp
def addL : FwSt → List Nb → List Nb → List Nb
  | _, [], P => P
  | σ, x :: t, P => addL (take1 σ x) t (addP σ x P)
/-- Many, one by one. -/
theorem EpL.takeL : ∀ (l : List Nb) (σ : FwSt) (P : List Nb) (out : List Ms), EpL σ.ep P out σ.nx σ.wt → EpG σ.ep P σ.nx → (∀ x ∈ l, x.e = σ.ep ∧ 1 ≤ x.n) → P.length + l.length ≤ 1000000 →
    EpL σ.ep (addL σ l P) (out ++ takeL σ l) (takeS σ l).nx (takeS σ l).wt ∧ EpG σ.ep (addL σ l P) (takeS σ l).nx ∧ (takeS σ l).ep = σ.ep ∧ (takeS σ l).bf = σ.bf ∧
      (∀ y, y ∈ P → y ∈ addL σ l P) ∧ (∀ y, y ∈ addL σ l P → y ∈ P ∨ y ∈ l) ∧ (∀ x ∈ l, ∃ y ∈ addL σ l P, y.n = x.n) ∧ (addL σ l P).length ≤ P.length + l.length
  | [], σ, P, out, h, hg, _, _ => by
    refine ⟨by rw [show Go.Proofs.Ytokljdkeegdniaa.takeL σ [] = [] from rfl, List.append_nil]; exact h, hg, rfl, rfl, fun _ h => h, fun _ h => .inl h, by simp, by simp [addL]⟩
  | x :: t, σ, P, out, h, hg, hl, hP => by
    obtain ⟨he, h1⟩ := hl x (List.mem_cons_self ..)
    rw [List.length_cons] at hP
    obtain ⟨a1, a2⟩ := h.take1 hg he h1 (by omega)
    have ee := take1_ep σ x
    rw [← ee] at a1 a2
    obtain ⟨b1, b2, b3, b4, b5, b6, b7, b8⟩ := EpL.takeL t (Go.Proofs.Ytokljdkeegdniaa.take1 σ x) _ _ a1 a2 (fun y hy => by rw [ee]; exact hl y (List.mem_cons_of_mem _ hy)) (by have := addP_len σ x P; omega)
    rw [ee] at b1 b2
    refine ⟨?_, b2, b3.trans ee, b4.trans (take1_bf σ x), fun y hy => b5 y (addP_mono hy), fun y hy => ?_, fun y hy => ?_, ?_⟩
    · have e : Go.Proofs.Ytokljdkeegdniaa.takeL σ (x :: t) = drain (putW σ x) ++ Go.Proofs.Ytokljdkeegdniaa.takeL (Go.Proofs.Ytokljdkeegdniaa.take1 σ x) t := rfl
      rw [e, ← List.append_assoc]; exact b1
    · rcases b6 y hy with h | h
      · rcases addP_sub h with h | h
        · exact .inl h
        · exact .inr (by rw [h]; exact List.mem_cons_self ..)
      · exact .inr (List.mem_cons_of_mem _ h)
    · rcases List.mem_cons.1 hy with e | hy
      · subst e
        obtain ⟨z, hz, ez⟩ := addP_has h he h1
        exact ⟨z, b5 z hz, ez⟩
      · exact b7 y hy
    · have := addP_len σ x P
      show (addL (Go.Proofs.Ytokljdkeegdniaa.take1 σ x) t (addP σ x P)).length ≤ _
      rw [List.length_cons]
      omega
/-- What was taken is told by what came. -/
theorem EpL.unique {ep : Int} {P P' : List Nb} {out out' : List Ms} {nx nx' : Int} {wt wt' : List ((Int × Int) × Ms)} (h : EpL ep P out nx wt) (hg : EpG ep P nx) (h' : EpL ep P' out' nx' wt') (hg' : EpG ep P' nx')
    (hP : ∀ x, x ∈ P ↔ x ∈ P') : nx = nx' ∧ out = out' := by
  have key : ∀ {P P' : List Nb} {out out' : List Ms} {nx nx' : Int} {wt wt' : List ((Int × Int) × Ms)}, EpL ep P out nx wt → EpG ep P nx → EpL ep P' out' nx' wt' → (∀ x, x ∈ P ↔ x ∈ P') → ¬ nx < nx' := by
    intro P P' out out' nx nx' wt wt' h hg h' hP hlt
    have h1 := h.nxe
    have h2 := h'.nxe
    have hk : out.length < out'.length := by omega
    exact hg _ ((hP _).2 (h'.got out.length _ (List.getElem?_eq_getElem hk))) (by rw [h1])
  have e : nx = nx' := by
    have a := key h hg h' hP
    have b := key h' hg' h (fun x => (hP x).symm)
    omega
  refine ⟨e, ?_⟩
  have hl : out.length = out'.length := by have := h.nxe; have := h'.nxe; omega
  refine List.ext_getElem hl fun k hk hk' => ?_
  have a := h.got k _ (List.getElem?_eq_getElem hk)
  have b := (hP _).2 (h'.got k _ (List.getElem?_eq_getElem hk'))
  have := h.pn _ a _ b rfl
  injection this
/-- .. nothing is lacking: all came. -/
theorem EpL.all {ep : Int} {P : List Nb} {out : List Ms} {nx : Int} {wt : List ((Int × Int) × Ms)} (h : EpL ep P out nx wt) (hg : EpG ep P nx) (n : Nat) (hup : ∀ x ∈ P, x.n ≤ n) (hall : ∀ k, k < n → ∃ y ∈ P, y.n = (k : Int) + 1) : out.length = n := by
  have h1 := h.nxe
  refine Nat.le_antisymm (Classical.byContradiction fun hc => ?_) (Classical.byContradiction fun hc => ?_)
  · have hk : n < out.length := by omega
    have := hup _ (h.got n _ (List.getElem?_eq_getElem hk))
    simp at this; omega
  · obtain ⟨y, hy, e⟩ := hall out.length (by omega)
    exact hg y hy (by rw [e, h1])
end Go.Proofs.Ytokljdkeegdniaa
