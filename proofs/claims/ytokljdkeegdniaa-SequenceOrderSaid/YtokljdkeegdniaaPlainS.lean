/-
  SequenceAll and SequenceOrder, plain: what a follower takes of two sources.
-/
import Derived.Test.YtokljdkeegdniaaBoth
namespace Go.Proofs.Ytokljdkeegdniaa
open Go.RowKit

theorem src_bad {ep : Int} {f : Nat → Ms} {a : Nat} (h : rightB (f a) = true) : badB (srcX ep f a) = false := by
  unfold badB
  have h2 : ¬ (srcX ep f a).n < 1 := by show ¬ ((a : Int) + 1 < 1); omega
  rw [show rightB (srcX ep f a).m = true from h]
  simp [h2]
theorem recv_eq {σ : FwSt} {x : Nb} (hb : badB x = false) (he : x.e = σ.ep) : recvE σ x = 0 ∧ recvL σ x = takeL σ [x] ∧ recvS σ x = takeS σ [x] := by
  unfold recvE recvL recvS
  rw [hb]
  simp only [Bool.false_eq_true, if_false]
  rw [if_neg (by omega), if_pos he, if_neg (by omega), if_neg (by omega)]
  exact ⟨rfl, rfl, rfl⟩
theorem recv_gt {σ : FwSt} {x : Nb} (hb : badB x = false) (he : σ.ep < x.e) : recvE σ x = 0 ∧ recvL σ x = [] ∧ recvS σ x = keepS σ x := by
  unfold recvE recvL recvS
  rw [hb]
  simp only [Bool.false_eq_true, if_false]
  rw [if_neg (by omega), if_neg (by omega), if_neg (by omega), if_pos he]
  exact ⟨rfl, rfl, rfl⟩
theorem recv_lt {σ : FwSt} {x : Nb} (hb : badB x = false) (he : x.e < σ.ep) : recvE σ x = 110 ∧ recvL σ x = [] ∧ recvS σ x = σ := by
  unfold recvE recvL recvS
  rw [hb]
  simp only [Bool.false_eq_true, if_false]
  rw [if_pos he, if_neg (by omega), if_pos he]
  exact ⟨rfl, rfl, rfl⟩
/-- What keep makes of the buffer. -/
theorem keep_sub {σ : FwSt} {x : Nb} {p : (Int × Int) × Ms} (h : p ∈ (keepS σ x).bf) : p ∈ σ.bf ∨ p = kyOf x := by
  unfold keepS at h
  split at h
  · exact .inl h
  · split at h
    · exact (mem_kput h).symm
    · exact .inl h
theorem keep_mono {σ : FwSt} {x : Nb} {p : (Int × Int) × Ms} (h : p ∈ σ.bf) : p ∈ (keepS σ x).bf := by
  unfold keepS
  split
  · exact h
  · rename_i hk
    split
    · have : kfind (x.e, x.n) σ.bf = none := by
        cases hh : kfind (x.e, x.n) σ.bf with
        | none => rfl
        | some v => rw [hh] at hk; simp at hk
      simp only
      rw [kput_new this]
      exact List.mem_append_left _ h
    · exact h
theorem keep_has {σ : FwSt} {x : Nb} (h : σ.bf.length < 64) : ∃ p ∈ (keepS σ x).bf, p.1 = (x.e, x.n) := by
  unfold keepS
  split
  · rename_i hk
    obtain ⟨v, hv⟩ := Option.isSome_iff_exists.1 hk
    exact ⟨_, kfind_mem hv, rfl⟩
  · rename_i hk
    have : kfind (x.e, x.n) σ.bf = none := by
      cases hh : kfind (x.e, x.n) σ.bf with
      | none => rfl
      | some v => rw [hh] at hk; simp at hk
    try rw [if_pos h]
    simp only
    rw [kput_new this]
    exact ⟨((x.e, x.n), x.m), by simp, rfl⟩
theorem keep_len (σ : FwSt) (x : Nb) : (keepS σ x).bf.length ≤ σ.bf.length + 1 := by
  unfold keepS
  split
  · omega
  · split
    · exact kput_len_le _ _ _
    · omega
theorem recv_len (σ : FwSt) (x : Nb) : (recvS σ x).wt.length ≤ σ.wt.length + 1 ∧ (recvS σ x).bf.length ≤ σ.bf.length + 1 := by
  unfold recvS
  split
  · omega
  · split
    · omega
    · split
      · obtain ⟨-, -, k3⟩ := keepS_ep σ x
        exact ⟨by rw [k3]; omega, keep_len σ x⟩
      · have h1 := take1_sum σ x
        have h2 := take1_bf σ x
        refine ⟨?_, ?_⟩
        · show (take1 σ x).wt.length ≤ _; omega
        · show (take1 σ x).bf.length ≤ _; rw [h2]; omega
theorem src_cell {wc w : World} {b o n cap kz : Nat} {ep : Int} {f : Nat → Ms} (h : OwnNb wc (.slice (some ⟨b, o, none⟩) n cap) (srcL ep f n)) (he : Ext wc w) (hk : kz < n) : NbCells w b (o + kz * 5) (srcX ep f kz) ∧ b < w.heap.size := by
  obtain ⟨b', o', e, hl, hc⟩ := Sl.atN ((h.ext he).sl Nb.len) (j := kz) (by rw [srcL_len]; exact hk)
  rw [srcL_get] at hc
  simp only [Option.some.injEq, Addr.mk.injEq, and_true] at e
  obtain ⟨rfl, rfl⟩ := e
  exact ⟨hc, hl⟩
theorem src_addr {wc : World} {A : Option Addr} {n cap : Nat} {ep : Int} {f : Nat → Ms} (h : OwnNb wc (.slice A n cap) (srcL ep f n)) (hn : 1 ≤ n) : ∃ b o, A = some ⟨b, o, none⟩ := by
  obtain ⟨b', o', e, hl, hc⟩ := Sl.atN (h.sl Nb.len) (j := 0) (by rw [srcL_len]; omega)
  exact ⟨b', o', e⟩
/-- .. taken of a source: its beginning. -/
theorem EpL.good {ep : Int} {P : List Nb} {out : List Ms} {nx : Int} {wt : List ((Int × Int) × Ms)} (h : EpL ep P out nx wt) {f : Nat → Ms} {n : Nat} (hP : ∀ x ∈ P, ∃ a, a < n ∧ x = srcX ep f a) : out.length ≤ n ∧ ∀ k (hk : k < out.length), out[k] = f k := by
  have key : ∀ k (hk : k < out.length), k < n ∧ out[k] = f k := fun k hk => by
    obtain ⟨a, ha, e⟩ := hP _ (h.got k _ (List.getElem?_eq_getElem hk))
    unfold srcX at e
    simp only [Nb.mk.injEq] at e
    have : a = k := by omega
    subst this
    exact ⟨ha, e.2.2⟩
  refine ⟨Classical.byContradiction fun hc => ?_, fun k hk => (key k hk).2⟩
  have := (key n (by omega)).1
  omega
/-! ### all come -/
structure AllI (n i : Nat) (kk : Nat → Nat) (σ : FwSt) (out : List Ms) : Prop where
  ex : ∃ P, FwOk P out σ ∧ P.length ≤ i ∧ (∀ x ∈ P, ∃ a, a < n ∧ x = srcX 1 sM a) ∧ (∀ j, j < i → ∃ y ∈ P, y.n = (kk j : Int) + 1)
  ep : σ.ep = 1
  bs : ∀ p ∈ σ.bf, ∃ a, a < n ∧ p = kyOf (srcX 2 tM a)
  bc : ∀ j, j < i → ∃ p ∈ σ.bf, p.1 = (2, (kk j : Int) + 1)
  bl : σ.bf.length ≤ i
theorem AllI.zero (n : Nat) (kk : Nat → Nat) : AllI n 0 kk (fw0 1) [] :=
  ⟨⟨[], fw0_ok 1, Nat.le_refl _, by simp, by intro j hj; omega⟩, rfl, by simp [fw0], by intro j hj; omega, by simp [fw0]⟩
theorem AllI.step {n i : Nat} {kk : Nat → Nat} {σ : FwSt} {out : List Ms} (h : AllI n i kk σ out) (hi : i < 20) (hk : kk i < n) (hn : n ≤ 20) :
    recvE σ (srcX 1 sM (kk i)) = 0 ∧ recvE (recvS σ (srcX 1 sM (kk i))) (srcX 2 tM (kk i)) = 0 ∧ recvL (recvS σ (srcX 1 sM (kk i))) (srcX 2 tM (kk i)) = [] ∧
    AllI n (i + 1) kk (recvS (recvS σ (srcX 1 sM (kk i))) (srcX 2 tM (kk i))) (out ++ recvL σ (srcX 1 sM (kk i))) := by
  obtain ⟨⟨P, hF, hl, hS, hC⟩, he, hbs, hbc, hbl⟩ := h
  have h1 := src_bad (ep := 1) (sM_right (kk i) (by omega))
  have h2 := src_bad (ep := 2) (tM_right (kk i) (by omega))
  have n1 : (1 : Int) ≤ (srcX 1 sM (kk i)).n := by show (1 : Int) ≤ (kk i : Int) + 1; omega
  have n2 : (1 : Int) ≤ (srcX 2 tM (kk i)).n := by show (1 : Int) ≤ (kk i : Int) + 1; omega
  obtain ⟨a1, a2, a3⟩ := recv_eq (σ := σ) h1 (by rw [he]; rfl)
  have he' : (takeS σ [srcX 1 sM (kk i)]).ep = 1 := (take1_ep σ _).trans he
  have hb' : (takeS σ [srcX 1 sM (kk i)]).bf = σ.bf := take1_bf σ _
  have hgt : (takeS σ [srcX 1 sM (kk i)]).ep < (srcX 2 tM (kk i)).e := by rw [he']; show (1 : Int) < 2; decide
  obtain ⟨b1, b2, b3⟩ := recv_gt (σ := takeS σ [srcX 1 sM (kk i)]) h2 hgt
  rw [a1, a2, a3, b1, b2, b3]
  have hF1 := hF.take (srcX 1 sM (kk i)) (by rw [he]; rfl) n1 (by omega)
  have hF2 := hF1.keep (srcX 2 tM (kk i)) hgt n2
  obtain ⟨k1, k2, k3⟩ := keepS_ep (takeS σ [srcX 1 sM (kk i)]) (srcX 2 tM (kk i))
  refine ⟨rfl, rfl, rfl, ⟨_, hF2, Nat.le_trans (addP_len _ _ _) (by omega), fun x hx => ?_, fun j hj => ?_⟩, k1.trans he', fun p hp => ?_, fun j hj => ?_, ?_⟩
  · rcases addP_sub hx with hx | hx
    · exact hS x hx
    · exact ⟨kk i, hk, hx⟩
  · by_cases hji : j < i
    · obtain ⟨y, hy, e⟩ := hC j hji
      exact ⟨y, addP_mono hy, e⟩
    · have : j = i := by omega
      subst this
      exact addP_has hF.ep (by rw [he]; rfl) n1
  · rcases keep_sub hp with hp | hp
    · rw [hb'] at hp; exact hbs p hp
    · exact ⟨kk i, hk, hp⟩
  · by_cases hji : j < i
    · obtain ⟨p, hp, e⟩ := hbc j hji
      exact ⟨p, keep_mono (by rw [hb']; exact hp), e⟩
    · have : j = i := by omega
      subst this
      exact keep_has (x := srcX 2 tM (kk j)) (by rw [hb']; omega)
  · have := keep_len (takeS σ [srcX 1 sM (kk i)]) (srcX 2 tM (kk i))
    rw [hb'] at this
    omega
theorem AllI.wl {n i : Nat} {kk : Nat → Nat} {σ : FwSt} {out : List Ms} (h : AllI n i kk σ out) (hi : i ≤ 20) : σ.wt.length ≤ 20 ∧ σ.bf.length ≤ 20 ∧ (σ.bf.map (·.1)).Nodup ∧ out.length ≤ 20 := by
  obtain ⟨P, hF, hl, -⟩ := h.ex
  have h1 := hF.wl
  have h2 := h.bl
  have h3 := hF.ep.len
  exact ⟨by omega, by omega, hF.bn, by omega⟩
theorem AllI.done {n : Nat} {kk : Nat → Nat} {σ : FwSt} {out : List Ms} (h : AllI n n kk σ out) (hk : ∀ k, k < n → ∃ j, j < n ∧ kk j = k) : out.length = n ∧ moveE σ 2 = 0 ∧ (moveX σ 2).length = n := by
  obtain ⟨⟨P, hF, hl, hS, hC⟩, he, hbs, hbc, hbl⟩ := h
  refine ⟨hF.ep.all hF.gap n (fun x hx => ?_) (fun k hkn => ?_), ?_, ?_⟩
  · obtain ⟨a, ha, rfl⟩ := hS x hx
    show (a : Int) + 1 ≤ n; omega
  · obtain ⟨j, hj, e⟩ := hk k hkn
    rw [← e]; exact hC j hj
  · unfold moveE; rw [he]; rfl
  · unfold moveX
    rw [he, if_neg (by omega)]
    obtain ⟨h1, h2, -, h4, h5, -⟩ := hF.move 2
    refine h1.ep.all h1.gap n (fun x hx => ?_) (fun k hkn => ?_)
    · obtain ⟨p, hp, -, rfl⟩ := h4 x hx
      obtain ⟨a, ha, rfl⟩ := hbs p hp
      show (a : Int) + 1 ≤ n; omega
    · obtain ⟨j, hj, e⟩ := hk k hkn
      obtain ⟨p, hp, e2⟩ := hbc j hj
      obtain ⟨y, hy, e3⟩ := h5 p hp (by rw [e2])
      refine ⟨y, hy, ?_⟩
      rw [e3, e2, e]
def turnK (n tt : Nat) (back : Bool) (i : Nat) : Nat := if back then n - 1 - (i + tt) % n else (i + tt) % n
theorem turnK_lt {n tt : Nat} {back : Bool} {i : Nat} (hn : 0 < n) : turnK n tt back i < n := by
  unfold turnK
  have := Nat.mod_lt (i + tt) hn
  split <;> omega
theorem turnK_onto {n tt : Nat} (back : Bool) (hn : 0 < n) (ht : tt < 20) : ∀ k, k < n → ∃ j, j < n ∧ turnK n tt back j = k := by
  have key : ∀ k, k < n → ∃ j, j < n ∧ (j + tt) % n = k := fun k hk => by
    refine ⟨(k + (20 * n - tt)) % n, Nat.mod_lt _ hn, ?_⟩
    rw [Nat.mod_add_mod, show k + (20 * n - tt) + tt = k + 20 * n by omega, Nat.add_mul_mod_self_right, Nat.mod_eq_of_lt hk]
  intro k hk
  unfold turnK
  cases back with
  | false => exact key k hk
  | true =>
    obtain ⟨j, hj, e⟩ := key (n - 1 - k) (by omega)
    exact ⟨j, hj, by rw [e]; simp; omega⟩
/-! ### some come -/
/-- a was taken in the first epoch, b in the second one. -/
structure OrdI (n i : Nat) (moved : Bool) (σ : FwSt) (a b : List Ms) : Prop where
  ep : σ.ep = if moved then 2 else 1
  ex : ∃ P, FwOk P (if moved then b else a) σ ∧ P.length ≤ 64 + i ∧ ∀ x ∈ P, ∃ k, k < n ∧ x = srcX σ.ep (if moved then tM else sM) k
  ga : a.length ≤ n ∧ ∀ k (hk : k < a.length), a[k] = sM k
  gb : b.length ≤ n ∧ ∀ k (hk : k < b.length), b[k] = tM k
  b0 : moved = false → b = []
  bs : ∀ p ∈ σ.bf, ∃ k, k < n ∧ p = kyOf (srcX 2 tM k)
theorem OrdI.zero (n : Nat) : OrdI n 0 false (fw0 1) [] [] :=
  ⟨rfl, ⟨[], fw0_ok 1, by simp, by simp⟩, ⟨by simp, by simp⟩, ⟨by simp, by simp⟩, fun _ => rfl, by simp [fw0]⟩
theorem OrdI.move {n i : Nat} {σ : FwSt} {a b : List Ms} (h : OrdI n i false σ a b) : moveE σ 2 = 0 ∧ OrdI n i true (moveT σ 2) a (b ++ moveX σ 2) := by
  obtain ⟨he, ⟨P, hF, hl, hS⟩, hga, hgb, hb0, hbs⟩ := h
  simp only [Bool.false_eq_true, if_false] at he hF hS
  have eb := hb0 rfl
  subst eb
  have e1 : moveT σ 2 = moveS σ 2 := by unfold moveT; rw [he, if_neg (by omega)]
  have e2 : moveX σ 2 = moveL σ 2 := by unfold moveX; rw [he, if_neg (by omega)]
  obtain ⟨h1, h2, h3, h4, h5, h6⟩ := hF.move 2
  rw [e1, e2, List.nil_append]
  have hP : ∀ x ∈ moveP σ 2, ∃ k, k < n ∧ x = srcX 2 tM k := fun x hx => by
    obtain ⟨p, hp, -, rfl⟩ := h4 x hx
    obtain ⟨k, hk, rfl⟩ := hbs p hp
    exact ⟨k, hk, rfl⟩
  have h1e := h1.ep
  rw [h2] at h1e
  refine ⟨by unfold moveE; rw [he]; rfl, ⟨by simpa using h2, ⟨_, by simpa using h1, Nat.le_trans h6 (by omega), fun x hx => ?_⟩, hga, h1e.good hP, fun h => absurd h (by simp), fun p hp => ?_⟩⟩
  · rw [h2]; simpa using hP x hx
  · rw [h3] at hp
    exact hbs p (List.mem_filter.1 hp).1
theorem OrdI.two {n i : Nat} {moved : Bool} {σ : FwSt} {a b : List Ms} (h : OrdI n i moved σ a b) (hn : n ≤ 20) (hi : i < 1000) {k : Nat} (hk : k < n) :
    recvE σ (srcX 2 tM k) = 0 ∧ (moved = false → recvL σ (srcX 2 tM k) = []) ∧ OrdI n (i + 1) moved (recvS σ (srcX 2 tM k)) a (b ++ recvL σ (srcX 2 tM k)) := by
  obtain ⟨he, ⟨P, hF, hl, hS⟩, hga, hgb, hb0, hbs⟩ := h
  have hb := src_bad (ep := 2) (tM_right k (by omega))
  have n2 : (1 : Int) ≤ (srcX 2 tM k).n := by show (1 : Int) ≤ (k : Int) + 1; omega
  cases moved with
  | false =>
    simp only [Bool.false_eq_true, if_false] at he hF hS
    have hgt : σ.ep < (srcX 2 tM k).e := by rw [he]; show (1 : Int) < 2; decide
    obtain ⟨a1, a2, a3⟩ := recv_gt hb hgt
    obtain ⟨k1, k2, k3⟩ := keepS_ep σ (srcX 2 tM k)
    rw [a1, a2, a3, List.append_nil]
    refine ⟨rfl, fun _ => rfl, ⟨by rw [k1]; simpa using he, ⟨P, by simpa using hF.keep _ hgt n2, by omega, fun x hx => by rw [k1]; simpa using hS x hx⟩, hga, hgb, hb0, fun p hp => ?_⟩⟩
    rcases keep_sub hp with hp | hp
    · exact hbs p hp
    · exact ⟨k, hk, hp⟩
  | true =>
    simp only [if_true] at he hF hS
    have hee : (srcX 2 tM k).e = σ.ep := by rw [he]; rfl
    obtain ⟨a1, a2, a3⟩ := recv_eq hb hee
    rw [a1, a2, a3]
    have hF' := hF.take _ hee n2 (by omega)
    have he' : (takeS σ [srcX 2 tM k]).ep = 2 := (take1_ep σ _).trans he
    have hP : ∀ x ∈ addP σ (srcX 2 tM k) P, ∃ j, j < n ∧ x = srcX 2 tM j := fun x hx => by
      rcases addP_sub hx with hx | hx
      · rw [he] at hS; exact hS x hx
      · exact ⟨k, hk, hx⟩
    have hFe := hF'.ep
    rw [he'] at hFe
    refine ⟨rfl, fun h => absurd h (by simp), ⟨by simpa using he', ⟨_, by simpa using hF', Nat.le_trans (addP_len _ _ _) (by omega), fun x hx => by rw [he']; simpa using hP x hx⟩, hga, hFe.good hP, fun h => absurd h (by simp), fun p hp => ?_⟩⟩
    exact hbs p (by rw [← take1_bf σ (srcX 2 tM k)]; exact hp)
theorem OrdI.one {n i : Nat} {moved : Bool} {σ : FwSt} {a b : List Ms} (h : OrdI n i moved σ a b) (hn : n ≤ 20) (hi : i < 1000) {k : Nat} (hk : k < n) :
    recvE σ (srcX 1 sM k) = (if moved then 110 else 0) ∧ OrdI n (i + 1) moved (recvS σ (srcX 1 sM k)) (a ++ recvL σ (srcX 1 sM k)) b := by
  obtain ⟨he, ⟨P, hF, hl, hS⟩, hga, hgb, hb0, hbs⟩ := h
  have hb := src_bad (ep := 1) (sM_right k (by omega))
  have n2 : (1 : Int) ≤ (srcX 1 sM k).n := by show (1 : Int) ≤ (k : Int) + 1; omega
  cases moved with
  | true =>
    simp only [if_true] at he hF hS
    have hlt : (srcX 1 sM k).e < σ.ep := by rw [he]; show (1 : Int) < 2; decide
    obtain ⟨a1, a2, a3⟩ := recv_lt hb hlt
    rw [a1, a2, a3, List.append_nil]
    exact ⟨rfl, ⟨by simpa using he, ⟨P, by simpa using hF, by omega, fun x hx => by simpa using hS x hx⟩, hga, hgb, hb0, hbs⟩⟩
  | false =>
    simp only [Bool.false_eq_true, if_false] at he hF hS
    have hee : (srcX 1 sM k).e = σ.ep := by rw [he]; rfl
    obtain ⟨a1, a2, a3⟩ := recv_eq hb hee
    rw [a1, a2, a3]
    have hF' := hF.take _ hee n2 (by omega)
    have he' : (takeS σ [srcX 1 sM k]).ep = 1 := (take1_ep σ _).trans he
    have hP : ∀ x ∈ addP σ (srcX 1 sM k) P, ∃ j, j < n ∧ x = srcX 1 sM j := fun x hx => by
      rcases addP_sub hx with hx | hx
      · rw [he] at hS; exact hS x hx
      · exact ⟨k, hk, hx⟩
    have hFe := hF'.ep
    rw [he'] at hFe
    refine ⟨rfl, ⟨by simpa using he', ⟨_, by simpa using hF', Nat.le_trans (addP_len _ _ _) (by omega), fun x hx => by rw [he']; simpa using hP x hx⟩, hFe.good hP, hgb, hb0, fun p hp => ?_⟩⟩
    exact hbs p (by rw [← take1_bf σ (srcX 1 sM k)]; exact hp)
theorem OrdI.wl {n i : Nat} {moved : Bool} {σ : FwSt} {a b : List Ms} (h : OrdI n i moved σ a b) (hi : i ≤ 1000) : σ.wt.length ≤ 999999 ∧ σ.bf.length ≤ 999999 ∧ (σ.bf.map (·.1)).Nodup := by
  obtain ⟨P, hF, hl, -⟩ := h.ex
  have h1 := hF.wl
  have h2 := hF.bl
  exact ⟨by omega, by omega, hF.bn⟩
end Go.Proofs.Ytokljdkeegdniaa
