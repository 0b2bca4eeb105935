/-
  The follower, plain: its state, what take, keep, Receive and Move make of it.
-/
import Derived.Test.YtokljdkeegdniaaOpsS
namespace Go.Proofs.Ytokljdkeegdniaa
open Go.RowKit

structure FwSt where
  ep : Int
  nx : Int
  wt : List ((Int × Int) × Ms)
  bf : List ((Int × Int) × Ms)
def fw0 (e : Int) : FwSt := ⟨e, 1, [], []⟩
theorem kdel_len {K V : Type} [DecidableEq K] {k : K} {v : V} {kv : List (K × V)} (h : kfind k kv = some v) : (kdel k kv).length + 1 = kv.length := by
  induction kv with
  | nil => simp [kfind] at h
  | cons p r ih =>
    unfold kfind at h; unfold kdel
    by_cases hp : p.1 = k
    · rw [if_pos hp]; rfl
    · rw [if_neg hp] at h ⊢
      rw [List.length_cons, ih h, List.length_cons]
def stepD (σ : FwSt) : FwSt := { σ with nx := IntKind.u32.wrap (σ.nx + 1), wt := kdel (σ.ep, σ.nx) σ.wt }
def stK (σ : FwSt) : Nat → FwSt
  | 0 => σ
  | k + 1 => stepD (stK σ k)
theorem stK_succ (σ : FwSt) : ∀ k, stK σ (k + 1) = stK (stepD σ) k
  | 0 => rfl
  | k + 1 => by show stepD (stK σ (k + 1)) = stepD (stK (stepD σ) k); rw [stK_succ σ k]
theorem stK_ep (σ : FwSt) : ∀ k, (stK σ k).ep = σ.ep
  | 0 => rfl
  | k + 1 => stK_ep σ k
theorem stK_bf (σ : FwSt) : ∀ k, (stK σ k).bf = σ.bf
  | 0 => rfl
  | k + 1 => stK_bf σ k
def drainF : Nat → FwSt → List Ms
  | 0, _ => []
  | n + 1, σ => match kfind (σ.ep, σ.nx) σ.wt with
    | none => []
    | some m => m :: drainF n (stepD σ)
/-- What comes out. -/
def drain (σ : FwSt) : List Ms := drainF σ.wt.length σ
theorem drainF_spec : ∀ (n : Nat) (σ : FwSt), σ.wt.length = n →
    (∀ k m, (drainF n σ)[k]? = some m → kfind (σ.ep, (stK σ k).nx) (stK σ k).wt = some m) ∧ kfind (σ.ep, (stK σ (drainF n σ).length).nx) (stK σ (drainF n σ).length).wt = none
  | 0, σ, h => by
    have hn : σ.wt = [] := List.length_eq_zero_iff.1 h
    refine ⟨fun k m hk => by simp [drainF] at hk, ?_⟩
    show kfind (σ.ep, σ.nx) σ.wt = none
    rw [hn]; rfl
  | n + 1, σ, h => by
    cases hf : kfind (σ.ep, σ.nx) σ.wt with
    | none =>
      have e : drainF (n + 1) σ = [] := by rw [drainF, hf]
      rw [e]
      exact ⟨fun k m hk => by simp at hk, hf⟩
    | some v =>
      have e : drainF (n + 1) σ = v :: drainF n (stepD σ) := by rw [drainF, hf]
      have hl : (stepD σ).wt.length = n := by have := kdel_len hf; show (kdel (σ.ep, σ.nx) σ.wt).length = n; omega
      obtain ⟨h1, h2⟩ := drainF_spec n (stepD σ) hl
      rw [e]
      refine ⟨fun k m hk => ?_, ?_⟩
      · cases k with
        | zero => injection hk with hk; subst hk; exact hf
        | succ k => rw [stK_succ]; exact h1 k m hk
      · rw [List.length_cons, stK_succ]; exact h2
theorem drain_at (σ : FwSt) {k : Nat} {m : Ms} (h : (drain σ)[k]? = some m) : kfind (σ.ep, (stK σ k).nx) (stK σ k).wt = some m := (drainF_spec _ σ rfl).1 k m h
theorem drain_end (σ : FwSt) : kfind (σ.ep, (stK σ (drain σ).length).nx) (stK σ (drain σ).length).wt = none := (drainF_spec _ σ rfl).2
def putW (σ : FwSt) (x : Nb) : FwSt := if (kfind (x.e, x.n) σ.wt).isSome then σ else if σ.nx ≤ x.n then { σ with wt := kput (x.e, x.n) x.m σ.wt } else σ
def take1 (σ : FwSt) (x : Nb) : FwSt := stK (putW σ x) (drain (putW σ x)).length
def takeS (σ : FwSt) (l : List Nb) : FwSt := l.foldl take1 σ
def takeL : FwSt → List Nb → List Ms
  | _, [] => []
  | σ, x :: t => drain (putW σ x) ++ takeL (take1 σ x) t
theorem takeS_snoc (σ : FwSt) (l : List Nb) (x : Nb) : takeS σ (l ++ [x]) = take1 (takeS σ l) x := by simp [takeS]
theorem takeL_snoc : ∀ (l : List Nb) (σ : FwSt) (x : Nb), takeL σ (l ++ [x]) = takeL σ l ++ drain (putW (takeS σ l) x)
  | [], σ, x => by simp [takeL, takeS]
  | y :: t, σ, x => by
    show drain (putW σ y) ++ takeL (take1 σ y) (t ++ [x]) = (drain (putW σ y) ++ takeL (take1 σ y) t) ++ _
    rw [takeL_snoc t (take1 σ y) x, List.append_assoc]; rfl
theorem drainF_len : ∀ (n : Nat) (σ : FwSt), (drainF n σ).length ≤ n
  | 0, _ => Nat.zero_le _
  | n + 1, σ => by
    unfold drainF
    split
    · simp
    · rw [List.length_cons]; have := drainF_len n (stepD σ); omega
theorem drain_len (σ : FwSt) : (drain σ).length ≤ σ.wt.length := drainF_len _ _
theorem kput_len_le {K V : Type} [DecidableEq K] (k : K) (v : V) (kv : List (K × V)) : (kput k v kv).length ≤ kv.length + 1 := by
  induction kv with
  | nil => simp [kput]
  | cons p r ih => unfold kput; split <;> simp <;> omega
theorem kdel_len_le {K V : Type} [DecidableEq K] (k : K) (kv : List (K × V)) : (kdel k kv).length ≤ kv.length := by
  induction kv with
  | nil => simp [kdel]
  | cons p r ih => unfold kdel; split <;> simp; omega
theorem putW_len (σ : FwSt) (x : Nb) : (putW σ x).wt.length ≤ σ.wt.length + 1 := by
  unfold putW; split
  · omega
  · split
    · exact kput_len_le _ _ _
    · omega
/-- What leaves and what stays are no more than what was there. -/
theorem drainF_sum : ∀ (n : Nat) (σ : FwSt), σ.wt.length = n → (drainF n σ).length + (stK σ (drainF n σ).length).wt.length = n
  | 0, σ, h => by show 0 + σ.wt.length = 0; omega
  | n + 1, σ, h => by
    cases hf : kfind (σ.ep, σ.nx) σ.wt with
    | none =>
      have e : drainF (n + 1) σ = [] := by rw [drainF, hf]
      rw [e]; show 0 + σ.wt.length = _; omega
    | some v =>
      have e : drainF (n + 1) σ = v :: drainF n (stepD σ) := by rw [drainF, hf]
      have hl : (stepD σ).wt.length = n := by have := kdel_len hf; show (kdel (σ.ep, σ.nx) σ.wt).length = n; omega
      rw [e, List.length_cons, stK_succ]
      have := drainF_sum n (stepD σ) hl
      omega
theorem take1_sum (σ : FwSt) (x : Nb) : (drain (putW σ x)).length + (take1 σ x).wt.length ≤ σ.wt.length + 1 := by
  have := drainF_sum _ (putW σ x) rfl
  have := putW_len σ x
  unfold take1 drain at *
  omega
theorem takeL_sum : ∀ (l : List Nb) (σ : FwSt), (takeL σ l).length + (takeS σ l).wt.length ≤ σ.wt.length + l.length
  | [], σ => by simp [takeL, takeS]
  | x :: t, σ => by
    have h1 := take1_sum σ x
    have h2 := takeL_sum t (take1 σ x)
    show (drain (putW σ x) ++ takeL (take1 σ x) t).length + (takeS (take1 σ x) t).wt.length ≤ _
    rw [List.length_append, List.length_cons]
    omega
structure FwSt.Ok (σ : FwSt) : Prop where
  n0 : 0 ≤ σ.nx
  n1 : σ.nx ≤ 4294967295
  kw : (σ.wt.map (·.1)).Nodup
theorem wrap32 (n : Int) : 0 ≤ IntKind.u32.wrap n ∧ IntKind.u32.wrap n ≤ 4294967295 := by
  simp [IntKind.wrap, IntKind.bits, IntKind.signed]; omega
theorem stepD_ok {σ : FwSt} (h : σ.Ok) : (stepD σ).Ok := ⟨(wrap32 _).1, (wrap32 _).2, nodup_kdel h.kw⟩
theorem stK_ok {σ : FwSt} (h : σ.Ok) : ∀ k, (stK σ k).Ok
  | 0 => h
  | k + 1 => stepD_ok (stK_ok h k)
theorem putW_ok {σ : FwSt} (h : σ.Ok) (x : Nb) : (putW σ x).Ok := by
  unfold putW; split
  · exact h
  · split
    · exact ⟨h.n0, h.n1, nodup_kput h.kw⟩
    · exact h
theorem take1_ok {σ : FwSt} (h : σ.Ok) (x : Nb) : (take1 σ x).Ok := stK_ok (putW_ok h x) _
end Go.Proofs.Ytokljdkeegdniaa
