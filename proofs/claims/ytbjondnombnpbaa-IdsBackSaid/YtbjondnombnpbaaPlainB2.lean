/-
  The book, plain: how many there are.
-/
import Derived.Test.YtbjondnombnpbaaPlainB
namespace Go.Proofs.Ytbjondnombnpbaa
open Go.RowKit

theorem kdel_len_le {K V : Type} [DecidableEq K] (k : K) (kv : List (K × V)) : (kdel k kv).length ≤ kv.length := by
  induction kv with
  | nil => simp [kdel]
  | cons p r ih => unfold kdel; split <;> simp; omega
theorem kdel_len {K V : Type} [DecidableEq K] {k : K} {v : V} {kv : List (K × V)} (h : kfind k kv = some v) : (kdel k kv).length + 1 = kv.length := by
  induction kv with
  | nil => simp [kfind] at h
  | cons p r ih =>
    unfold kfind at h; unfold kdel
    by_cases hp : p.1 = k
    · rw [if_pos hp]; simp
    · rw [if_neg hp] at h ⊢; simp [ih h]
theorem kput_len {K V : Type} [DecidableEq K] (k : K) (v : V) (kv : List (K × V)) : (kput k v kv).length ≤ kv.length + 1 := by
  induction kv with
  | nil => simp [kput]
  | cons p r ih => unfold kput; split <;> simp; omega
/-- The next one in the row is found among those that are left. -/
theorem row_left {σ : BSt} (hO : σ.Ok) {x : Ms} (hx : rightB x = true) (k : Nat) (hk : k < (rowL σ.wt x).length) : kfind (x.f, x.c + k + 1) (eatN σ ((rowL σ.wt x).take (k + 1))).wt = (rowL σ.wt x)[k + 1]? := by
  obtain ⟨r1, r2, r3⟩ := rowL_at hO hx
  rw [eat_find, r3 k hk]
  intro m hm hk2
  obtain ⟨j, hj1, hj2⟩ := List.getElem_of_mem hm
  have hj3 : j < k + 1 := by have := hj1; rw [List.length_take] at this; omega
  have hj4 : (rowL σ.wt x)[j]? = some m := by rw [← hj2, List.getElem_take]; exact List.getElem?_eq_getElem _
  obtain ⟨-, q2, -⟩ := r2 j m hj4
  injection hk2 with _ hk2
  omega
theorem eat_len {σ : BSt} (hO : σ.Ok) {x : Ms} (hx : rightB x = true) : ∀ k, k < (rowL σ.wt x).length → (eatN σ ((rowL σ.wt x).take (k + 1))).wt.length + (k + 1) ≤ σ.wt.length + 1
  | 0, hk => by
    obtain ⟨r1, -, -⟩ := rowL_at hO hx
    rw [List.take_succ_eq_append_getElem hk]
    simp only [List.take_zero, List.nil_append, eatN, List.foldl_cons, List.foldl_nil, eatS]
    have := kdel_len_le ((rowL σ.wt x)[0].f, (rowL σ.wt x)[0].c) σ.wt
    omega
  | k + 1, hk => by
    have ih := eat_len hO hx k (by omega)
    obtain ⟨r1, r2, r3⟩ := rowL_at hO hx
    have hl := row_left hO hx k (by omega)
    rw [List.getElem?_eq_getElem hk] at hl
    obtain ⟨q1, q2, -⟩ := r2 (k + 1) _ (List.getElem?_eq_getElem hk)
    rw [List.take_succ_eq_append_getElem hk, eatN_snoc]
    simp only [eatS]
    rw [q1, q2, show x.c + ((k + 1 : Nat) : Int) = x.c + k + 1 from by push_cast; omega]
    have := kdel_len hl
    omega
theorem row_pos {σ : BSt} (hO : σ.Ok) {x : Ms} (hx : rightB x = true) : 0 < (rowL σ.wt x).length := by
  obtain ⟨r1, -, -⟩ := rowL_at hO hx
  have := (List.getElem?_eq_some_iff.1 r1).1
  exact this
theorem eat_all {σ : BSt} (hO : σ.Ok) {x : Ms} (hx : rightB x = true) : (eatN σ (rowL σ.wt x)).wt.length + (rowL σ.wt x).length ≤ σ.wt.length + 1 := by
  have h0 := row_pos hO hx
  have := eat_len hO hx ((rowL σ.wt x).length - 1) (by omega)
  rw [show (rowL σ.wt x).length - 1 + 1 = (rowL σ.wt x).length from by omega, List.take_length] at this
  exact this
theorem take_len {σ : BSt} (hO : σ.Ok) (m : Ms) : (takeS σ m).log.length + (takeS σ m).wt.length ≤ σ.log.length + σ.wt.length + 1 := by
  unfold takeS
  by_cases hr : rightB m = true
  · rw [if_pos hr]
    split
    · have := eat_all hO hr
      simp only [List.length_append]
      omega
    · unfold waitS
      split
      · omega
      · have := kput_len (m.f, m.c) m σ.wt
        simp only
        omega
  · rw [if_neg hr]; omega
end Go.Proofs.Ytbjondnombnpbaa
