/-
  Maps in a walk: a fresh one.
-/
import Derived.Test.YtokljdkeegdniaaMaps
import Derived.Test.YtokljdkeegdniaaSteps2
import Derived.Carry
namespace Go.Proofs.Ytokljdkeegdniaa
open Go.RowKit
namespace Fx
section
variable {P : Program} {ol : List Oper} {Q : Act → World → Prop} {i : Nat} {rest : List (Nat × Nat)} {C : World → Prop} {l l' : List Value} {D : List Deferred} {v u : Value}
  {d : Tmp} {od : Option Tmp} {p : Op} {t : TypeId} {s : String} {af : Array Edge} {g : Option (Nat × Bool)} {lab : Nat}
theorem mkBy {β : Type} (val : β → Value) [hi : Nonempty β] (R : β → World → Prop) (hst : ∀ b, StableF (R b)) (ho : nth ol i = some ⟨some d, p, t, s, af, g⟩) (hw : gd ol l g = true)
    (hr : ∀ w, C w → stepAt P ⟨some d, p, t, s, af, g⟩ ⟨l.toArray, D⟩ w (fun u w' => ∃ b, u = val b ∧ Ext w w' ∧ R b w'))
    (h : ∀ b, wpP P ol.toArray Q rest (fun w => C w ∧ R b w) ⟨(l.set d (val b)).toArray, D⟩) : wpP P ol.toArray Q ((i, 2) :: rest) C ⟨l.toArray, D⟩ := by
  refine of_F ho ?_
  unfold wpF
  rw [if_pos (by rw [wanted_gd, hw])]
  refine ⟨β, val, R, hi, hst, hr, fun b => ?_⟩
  rw [put_lit]; exact (h b).out
end
end Fx
theorem stepAt_makeMap {P : Program} {K V : Type} [DecidableEq K] {ek : K → Value} {ev : V → Value} {d : Option Tmp} {t ty : TypeId} {s : String} {af : Array Edge} {g : Option (Nat × Bool)} {a : Act} {w W : World} (hC : Ext W w) :
    stepAt P ⟨d, .makeMap t none, ty, s, af, g⟩ a w (fun u w' => ∃ r, u = .map (some r) ∧ Ext w w' ∧ (MapIs w' r ek ev [] ∧ W.heap.size ≤ r)) := by
  unfold stepAt
  simp only [execOp, Option.map_none, Sem.run_bind, run_makeMap, Result.andThen_ok]
  exact ⟨_, rfl, Ext.alloc _ _, MapIs.made w, hC.size⟩
theorem stepAt_ins {P : Program} {K V : Type} [DecidableEq K] {ek : K → Value} {ev : V → Value} {kv : List (K × V)} {d : Option Tmp} {t ty kt et : TypeId} {s : String} {af : Array Edge} {g : Option (Nat × Bool)} {a : Act} {w W : World} {r : Nat} {m kx vx : Operand}
    (h : MapIs w r ek ev kv) (hK : KeyOps P kt ek) (ht : P.underlying t = some (.map kt et)) {k : K} {v : V} (hm : a.eval m = .map (some r)) (hk : a.eval kx = ek k) (hv : a.eval vx = ev v) :
    stepAt P ⟨d, .insert t m kx vx, ty, s, af, g⟩ a w (fun _ w' => MapIs w' r ek ev (kput k v kv) ∧ Mods (· = r) w w') := by
  obtain ⟨w', hr, h1, h2⟩ := h.upd hK ht k v
  unfold stepAt
  simp only [execOp, hm, hk, hv, Sem.run_bind, hr, Result.andThen_ok]
  exact ⟨h1, h2⟩
/-- .. into a map that is fresh. -/
theorem stepAt_ins_new {P : Program} {K V : Type} [DecidableEq K] {ek : K → Value} {ev : V → Value} {kv : List (K × V)} {d : Option Tmp} {t ty kt et : TypeId} {s : String} {af : Array Edge} {g : Option (Nat × Bool)} {a : Act} {w W : World} {r : Nat} {m kx vx : Operand}
    (hC : Ext W w) (h : MapIs w r ek ev kv ∧ W.heap.size ≤ r) (hK : KeyOps P kt ek) (ht : P.underlying t = some (.map kt et)) (k : K) (v : V) (hm : a.eval m = .map (some r)) (hk : a.eval kx = ek k) (hv : a.eval vx = ev v) {kv' : List (K × V)} (hkv : kput k v kv = kv') :
    stepAt P ⟨d, .insert t m kx vx, ty, s, af, g⟩ a w (fun _ w' => Ext W w' ∧ MapIs w' r ek ev kv' ∧ W.heap.size ≤ r) :=
  stepAt_mono (stepAt_ins (W := W) h.1 hK ht hm hk hv) (fun _ w' hh => ⟨((hC.mods (· = r)).trans hh.2 (fun _ _ h => h)).ext_of (fun x hx he => by have := h.2; omega), hkv ▸ hh.1, h.2⟩)
end Go.Proofs.Ytokljdkeegdniaa
