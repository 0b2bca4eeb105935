/-
  Two more steps: an effect, or a call with effects, whose value is known.
-/
import Derived.Test.YtokljdkeegdniaaSteps
namespace Go.Proofs.Ytokljdkeegdniaa
open Go.RowKit
/-! ### a region that draws nothing, by the same steps -/
section
variable {F : Fence} {n : Nat} {P : Program} {ops : Array Oper} {Q : Exit → Act → World → Prop}
theorem wpListIn_line (hF : WideF F) : ∀ (l : List (Oper × Nat)) (C : World → Prop) (a : Act) (w : World), (∀ p ∈ l, ∀ c, p.1.op ≠ .defer c) → StableF C → C w → wpF P ops (Q .normal) l C a → wpListIn F n P ops Q (l.map (·.1)) a w
  | [], C, a, w, _, _, hC, h => h w hC
  | (o, lab) :: rest, C, a, w, hd, hst, hC, h => by
    have hd1 := hd (o, lab) (by simp)
    have hd2 : ∀ p ∈ rest, ∀ c, p.1.op ≠ .defer c := fun p hp => hd p (by simp [hp])
    unfold wpF at h
    rw [List.map_cons]
    unfold wpListIn
    by_cases hw : Region.wanted o (yielded ops a.tmps) = true
    · rw [if_pos hw] at h ⊢
      match lab with
      | 0 =>
        obtain ⟨v, h2, h3⟩ := h
        refine stepAt_in hF hd1 (R := fun u w' => u = v ∧ w' = w) ?_ ?_
        · unfold stepAt; rw [h2 w]; exact ⟨rfl, rfl⟩
        · rintro u w' ⟨rfl, rfl⟩; exact wpListIn_line hF rest C _ _ hd2 hst hC h3
      | 1 =>
        obtain ⟨v, h2, h3⟩ := h
        refine stepAt_in hF hd1 (h2 w hC) ?_
        rintro u w' ⟨rfl, hext⟩; exact wpListIn_line hF rest C _ _ hd2 hst (hst _ _ hC hext) h3
      | 2 =>
        obtain ⟨β, val, R, hi, h0, h2, h3⟩ := h
        refine stepAt_in hF hd1 (h2 w hC) ?_
        rintro u' w' ⟨u, rfl, hext, hR⟩
        exact wpListIn_line hF rest (fun w => C w ∧ R u w) _ _ hd2 (fun x y hxy he => ⟨hst _ _ hxy.1 he, h0 u _ _ hxy.2 he⟩) ⟨hst _ _ hC hext, hR⟩ (h3 u)
      | k + 3 =>
        obtain ⟨β, val, R, hi, h0, h2, h3⟩ := h
        refine stepAt_in hF hd1 (h2 w hC) ?_
        rintro u' w' ⟨u, rfl, hR⟩
        exact wpListIn_line hF rest (R u) _ _ hd2 (h0 u) hR (h3 u)
    · rw [if_neg hw] at h ⊢
      exact ⟨fun f _ => hF.fn f, wpListIn_line hF rest C _ _ hd2 hst hC h⟩
def lineB (plan : List (Nat × Nat)) (n : Nat) : Bool := plan.map (·.1) == List.range n
theorem wpIn_region_line (hF : WideF F) {id : Nat} {a : Act} {w : World} (plan : List (Nat × Nat)) (hB : lineB plan ops.size = true) (hD : noDefer ops = true) (C : World → Prop) (hst : StableF C)
    (hC : C w) (h : wpP P ops (Q .normal) plan C a) : (Code.region id ops false).wpIn F n P Q a w := by
  have hB' : plan.map (·.1) = List.range ops.size := by simpa [lineB] using hB
  have hpk : (pick ops plan).map (·.1) = ops.toList := by
    unfold pick
    rw [List.map_map, show ((fun x : Oper × Nat => x.1) ∘ fun p : Nat × Nat => (ops.getD p.1 default, p.2)) = (fun i => ops.getD i default) ∘ (fun p : Nat × Nat => p.1) from rfl, ← List.map_map, hB']
    refine List.ext_getElem (by simp) fun i h1 h2 => ?_
    simp at h2
    simp [Array.getD_eq_getD_getElem?, h2]
  refine wpIn_region_list ?_
  rw [← hpk]
  refine wpListIn_line hF _ C a w (fun p hp c hc => ?_) hst hC h.out
  unfold pick at hp
  obtain ⟨q, hq, rfl⟩ := List.mem_map.1 hp
  have hlt : q.1 < ops.size := by
    have : q.1 ∈ plan.map (·.1) := List.mem_map.2 ⟨q, hq, rfl⟩
    rw [hB'] at this; simpa using this
  have h7 := Array.all_eq_true_iff_forall_mem.1 hD (ops.getD q.1 default) (by rw [Array.getD_eq_getD_getElem?, Array.getElem?_eq_getElem hlt]; simp)
  simp only at hc
  rw [hc] at h7; cases h7
theorem wp_region_line {id : Nat} {a : Act} {w : World} (plan : List (Nat × Nat)) (hB : lineB plan ops.size = true) (hD : noDefer ops = true) (C : World → Prop) (hst : StableF C)
    (hC : C w) (h : wpP P ops (Q .normal) plan C a) : (Code.region id ops false).wp P Q a w :=
  (wpIn_wide (n := 0)).1 (wpIn_region_line wideF_wide plan hB hD C hst hC h)
end

namespace Fx
section
variable {P : Program} {ol : List Oper} {Q : Act → World → Prop} {i : Nat} {rest : List (Nat × Nat)} {C : World → Prop} {l l' : List Value} {D : List Deferred} {v u : Value}
  {d : Tmp} {od : Option Tmp} {p : Op} {t : TypeId} {s : String} {af : Array Edge} {g : Option (Nat × Bool)} {lab : Nat}
theorem effV (R : World → Prop) (hst : StableF R) (ho : nth ol i = some ⟨some d, p, t, s, af, g⟩) (hw : gd ol l g = true)
    (hr : ∀ w, C w → stepAt P ⟨some d, p, t, s, af, g⟩ ⟨l.toArray, D⟩ w (fun u' w' => u' = u ∧ R w')) (ha : l.set d u = l')
    (h : wpP P ol.toArray Q rest R ⟨l'.toArray, D⟩) : wpP P ol.toArray Q ((i, 3) :: rest) C ⟨l.toArray, D⟩ := by
  refine of_F ho ?_
  unfold wpF
  rw [if_pos (by rw [wanted_gd, hw])]
  refine ⟨Unit, fun _ => u, fun _ => R, ⟨()⟩, fun _ => hst, fun w hC => stepAt_mono (hr w hC) (fun v w' hv => ⟨(), hv.1, hv.2⟩), fun _ => ?_⟩
  rw [put_lit, ha]; exact h.out
theorem callV {f : Nat} {args : Array Value} (u : Value) (R : World → Prop) (hst : StableF R) (ho : nth ol i = some ⟨some d, p, t, s, af, g⟩) (hw : gd ol l g = true)
    (hr : ∀ w, (execOp (Act.mk l.toArray D).eval ⟨some d, p, t, s, af, g⟩).run P w = .ok (.enter f args) w)
    (hc : ∀ w, C w → Calls P f args w (fun e w' => e = .returned u ∧ R w')) (ha : l.set d u = l')
    (h : wpP P ol.toArray Q rest R ⟨l'.toArray, D⟩) : wpP P ol.toArray Q ((i, 3) :: rest) C ⟨l.toArray, D⟩ :=
  effV (u := u) R hst ho hw (fun w hC => by
    unfold stepAt; rw [hr w]; exact (hc w hC).mono fun e w' ⟨he, hx⟩ => ⟨u, he, rfl, hx⟩) ha h
end
end Fx
end Go.Proofs.Ytokljdkeegdniaa
