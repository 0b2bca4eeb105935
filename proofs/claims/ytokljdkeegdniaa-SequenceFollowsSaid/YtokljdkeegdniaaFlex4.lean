/-
  More steps of a walk by classes of worlds: calls; a fresh slice; the class of the worlds that a comparing function may leave.
-/
import Derived.Test.YtokljdkeegdniaaFlex3
import Derived.Sort.Grow
import Derived.Deep.Draws
import Derived.Test.YtokljdkeegdniaaMem
namespace Go.Proofs.Ytokljdkeegdniaa
open Go.RowKit Go.Sort
namespace Gx
section
variable {G : World → Prop} {P : Program} {ol : List Oper} {Q : Act → World → Prop} {i : Nat} {rest : List (Nat × Nat)} {C : World → Prop} {l l' : List Value} {D : List Deferred} {v u : Value}
  {d : Tmp} {p : Op} {t : TypeId} {s : String} {af : Array Edge} {g : Option (Nat × Bool)}
/-- A call that writes and yields one value; what it leaves is known up to some values. -/
theorem callB {β : Type} {f : Nat} {args : Array Value} (u : Value) (R : β → World → Prop) (hb : Nonempty β) (hg : ∀ v w, R v w → G w) (ho : nth ol i = some ⟨some d, p, t, s, af, g⟩) (hw : gd ol l g = true)
    (hr : ∀ w, (execOp (Act.mk l.toArray D).eval ⟨some d, p, t, s, af, g⟩).run P w = .ok (.enter f args) w)
    (hc : ∀ w, C w → Calls P f args w (fun e w' => e = .returned u ∧ ∃ b, R b w')) (ha : l.set d u = l')
    (h : ∀ v, wpQ G P ol.toArray Q rest (R v) ⟨l'.toArray, D⟩) : wpQ G P ol.toArray Q ((i, 4) :: rest) C ⟨l.toArray, D⟩ := by
  refine of_F ho ?_
  unfold wpE
  rw [if_pos (by rw [wanted_gd, hw])]
  refine ⟨β, fun _ => u, R, hb, hg, fun w hC => ?_, fun v => ?_⟩
  · unfold stepAt; rw [hr w]; exact (hc w hC).mono fun e w' ⟨he, b, hx⟩ => ⟨u, he, b, rfl, hx⟩
  · rw [put_lit, ha]; exact (h v).out
/-- A call that keeps the class and yields one value. -/
theorem callK {f : Nat} {args : Array Value} (u : Value) (ho : nth ol i = some ⟨some d, p, t, s, af, g⟩) (hw : gd ol l g = true)
    (hr : ∀ w, (execOp (Act.mk l.toArray D).eval ⟨some d, p, t, s, af, g⟩).run P w = .ok (.enter f args) w)
    (hc : ∀ w, C w → Calls P f args w (fun e w' => e = .returned u ∧ C w')) (ha : l.set d u = l')
    (h : wpQ G P ol.toArray Q rest (fun w => C w ∧ True) ⟨l'.toArray, D⟩) : wpQ G P ol.toArray Q ((i, 2) :: rest) C ⟨l.toArray, D⟩ :=
  keepV u (fun _ => True) ho hw (fun w hC => by unfold stepAt; rw [hr w]; exact (hc w hC).mono fun e w' ⟨he, hx⟩ => ⟨u, he, rfl, hx, trivial⟩) ha h
/-- A call that keeps the class and yields some value. -/
theorem callKv {f : Nat} {args : Array Value} (R : Value → World → Prop) (ho : nth ol i = some ⟨some d, p, t, s, af, g⟩) (hw : gd ol l g = true)
    (hr : ∀ w, (execOp (Act.mk l.toArray D).eval ⟨some d, p, t, s, af, g⟩).run P w = .ok (.enter f args) w)
    (hc : ∀ w, C w → Calls P f args w (fun e w' => ∃ v, e = .returned v ∧ C w' ∧ R v w'))
    (h : ∀ v, wpQ G P ol.toArray Q rest (fun w => C w ∧ R v w) ⟨(l.set d v).toArray, D⟩) : wpQ G P ol.toArray Q ((i, 2) :: rest) C ⟨l.toArray, D⟩ :=
  keep R ho hw (fun w hC => by unfold stepAt; rw [hr w]; exact (hc w hC).mono fun e w' ⟨v, he, hx⟩ => ⟨v, he, hx⟩) h
/-- A call that turns nothing at all. -/
theorem call1 {f : Nat} {args : Array Value} (u : Value) (ho : nth ol i = some ⟨some d, p, t, s, af, g⟩) (hw : gd ol l g = true)
    (hr : ∀ w, (execOp (Act.mk l.toArray D).eval ⟨some d, p, t, s, af, g⟩).run P w = .ok (.enter f args) w)
    (hc : ∀ w, C w → Calls P f args w (fun e w' => e = .returned u ∧ w' = w)) (ha : l.set d u = l')
    (h : wpQ G P ol.toArray Q rest C ⟨l'.toArray, D⟩) : wpQ G P ol.toArray Q ((i, 1) :: rest) C ⟨l.toArray, D⟩ := by
  refine of_F ho ?_
  unfold wpE
  rw [if_pos (by rw [wanted_gd, hw])]
  refine ⟨u, fun w hC => ?_, ?_⟩
  · unfold stepAt; rw [hr w]; exact (hc w hC).mono fun e w' ⟨he, hx⟩ => ⟨u, he, rfl, hx⟩
  · rw [put_lit, ha]; exact h.out
/-- A step that keeps the class and yields a value known up to a number. -/
theorem keepN (val : Nat → Value) (R : Nat → World → Prop) (ho : nth ol i = some ⟨some d, p, t, s, af, g⟩) (hw : gd ol l g = true)
    (hr : ∀ w, C w → stepAt P ⟨some d, p, t, s, af, g⟩ ⟨l.toArray, D⟩ w (fun u w' => ∃ b, u = val b ∧ C w' ∧ R b w'))
    (h : ∀ b, wpQ G P ol.toArray Q rest (fun w => C w ∧ R b w) ⟨(l.set d (val b)).toArray, D⟩) : wpQ G P ol.toArray Q ((i, 2) :: rest) C ⟨l.toArray, D⟩ := by
  refine of_F ho ?_
  unfold wpE
  rw [if_pos (by rw [wanted_gd, hw])]
  refine ⟨Nat, val, R, ⟨0⟩, fun w hC => hr w hC, fun v => ?_⟩
  rw [put_lit]; exact (h v).out
end
end Gx

/-- What a comparing function may leave. -/
def Grew (W w : World) : Prop := ∃ q os, w = grow (W.drewN q) os
theorem Grew.refl (W : World) : Grew W W := ⟨0, #[], by rw [grow_empty]; rfl⟩
theorem Grew.ext {W w : World} (h : Grew W w) : Ext W w := by
  obtain ⟨q, os, rfl⟩ := h
  exact ⟨rfl, rfl, rfl, by simp [grow, World.drewN], fun k hk => by simp [grow, World.drewN, Array.getElem?_append, hk]⟩
theorem Grew.alloc {W w : World} (h : Grew W w) (o : Obj) : Grew W (w.alloc o) := by
  obtain ⟨q, os, rfl⟩ := h
  exact ⟨q, os ++ #[o], by rw [alloc_eq_grow, grow_grow]⟩
theorem Grew.drawn (W : World) : Grew W { W with drawn := W.drawn + 1 } := ⟨1, #[], by rw [grow_empty]; rfl⟩
theorem Grew.trans {a b c : World} (h : Grew a b) (k : Grew b c) : Grew a c := by
  obtain ⟨q, os, rfl⟩ := h
  obtain ⟨q', os', rfl⟩ := k
  refine ⟨q + q', os ++ os', ?_⟩
  rw [show (grow (a.drewN q) os).drewN q' = grow ((a.drewN q).drewN q') os from rfl, grow_grow, World.drewN_drewN]
end Go.Proofs.Ytokljdkeegdniaa
