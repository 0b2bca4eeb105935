/-
  Operations on a node's state: a fresh variable, a load, a store.
-/
import Derived.Test.YtfdbfdbeegalpaaDet
namespace Go.Proofs.Ytfdbfdbeegalpaa
open Go.RowKit

def Nd.enc (x : Nd) : List Value := [.int .u64 x.h, .int .u64 x.t, .bool x.s]
def ndF (x : Nd) : Nat → Value := fun i => x.enc.getD i undef
theorem box_Nd (w : World) (x : Nd) : Obj_ (w.alloc (.cells #[.int .u64 x.h, .int .u64 x.t, .bool x.s] 48)) w.heap.size 3 (ndF x) :=
  Obj_.new w _ #[.int .u64 x.h, .int .u64 x.t, .bool x.s] _ (by intro i hi; simp at hi; match i, hi with | 0, _ => rfl | 1, _ => rfl | 2, _ => rfl)
theorem Obj_.nd {w : World} {b : Nat} {x : Nd} (h : Obj_ w b 3 (ndF x)) : w.cell? ⟨b, 0, none⟩ = some (.int .u64 x.h) ∧ w.cell? ⟨b, 1, none⟩ = some (.int .u64 x.t) ∧ w.cell? ⟨b, 2, none⟩ = some (.bool x.s) :=
  ⟨h.cell 0 (by decide), h.cell 1 (by decide), h.cell 2 (by decide)⟩
theorem ndF_set (x : Nd) (i : Nat) (v : Value) (y : Nd) (h : ∀ j, j < 3 → upd (ndF x) i v j = ndF y j) {w : World} {b : Nat} (ho : Obj_ w b 3 (ndF x)) (hi : i < 3) : Obj_ (w.setCell ⟨b, i, none⟩ v) b 3 (ndF y) := (ho.set hi v).congr h
section
variable {a : Act} {d : Option Tmp} {t : TypeId} {s : String} {af : Array Edge} {g : Option (Nat × Bool)} {W w : World}
theorem run_alloc_Nd (w : World) : (Instr.alloc 48 true (.tuple #[])).run Try.prog w = .ok (.pointer (some ⟨w.heap.size, 0, none⟩)) (w.alloc (.cells #[.int .u64 nd0.h, .int .u64 nd0.t, .bool nd0.s] 48)) := by
  simp [go_sem, Try.zeroValue48, nd0]
theorem stepAt_alloc_Nd (hC : Ext W w) : stepAt Try.prog ⟨d, .alloc 48, t, s, af, g⟩ a w (fun u w' => ∃ b, u = .pointer (some ⟨b, 0, none⟩) ∧ Ext w w' ∧ W.heap.size ≤ b ∧ Obj_ w' b 3 (ndF nd0)) := by
  unfold stepAt
  simp only [execOp, Sem.run_bind, run_alloc_Nd, Result.andThen_ok]
  exact ⟨_, rfl, Ext.alloc _ _, hC.size, box_Nd w nd0⟩
theorem run_store_Nd {B : Nat} {f : Nat → Value} (h : Obj_ w B 3 f) (m : Nd) (hf2 : ∃ q, f 2 = .bool q) {q x : Value} (hq : q = .pointer (some ⟨B, 0, none⟩)) (hx : x = m.val) :
    (Instr.storeAt 48 q x).run Try.prog w = .ok () (((w.setCell ⟨B, 0, none⟩ (.int .u64 m.h)).setCell ⟨B, 1, none⟩ (.int .u64 m.t)).setCell ⟨B, 2, none⟩ (.bool m.s)) := by
  subst hq; subst hx
  have h1 := h.set (i := 0) (by omega) (.int .u64 m.h)
  have h2 := h1.set (i := 1) (by omega) (.int .u64 m.t)
  have c0 := h.cell 0 (by omega)
  have c1 := h1.cell 1 (by omega)
  have c2 := h2.cell 2 (by omega)
  have f0 := h.free 0
  have f1 := h1.free 1
  have f2 := h2.free 2
  unfold Nd.val
  clear h h1 h2 hf2
  simp [go_sem, Try.isAgg48, Try.sizeOf48, c0, c1, c2, f0, f1, f2]
theorem stepAt_store_Nd {B : Nat} {x0 : Nd} {q x : Operand} (hC : Ext W w) (hB : W.heap.size ≤ B) (h : Obj_ w B 3 (ndF x0)) (m : Nd) (hq : a.eval q = .pointer (some ⟨B, 0, none⟩)) (hx : a.eval x = m.val) :
    stepAt Try.prog ⟨d, .store 48 q x, t, s, af, g⟩ a w (fun _ w' => Ext W w' ∧ Obj_ w' B 3 (ndF m)) := by
  unfold stepAt
  simp only [execOp, Sem.run_bind, run_store_Nd h m ⟨_, rfl⟩ hq hx, Result.andThen_ok]
  refine ⟨((hC.setNew (p := ⟨B, 0, none⟩) hB _).setNew (p := ⟨B, 1, none⟩) hB _).setNew (p := ⟨B, 2, none⟩) hB _, ?_⟩
  refine (((h.set (i := 0) (by omega) (.int .u64 m.h)).set (i := 1) (by omega) (.int .u64 m.t)).set (i := 2) (by omega) (.bool m.s)).congr (fun i hi => ?_)
  match i, hi with
  | 0, _ => rfl
  | 1, _ => rfl
  | 2, _ => rfl
end
theorem run_load_Nd {a : Value} {b : Nat} {m : Nd} {w : World} (ha : a = .pointer (some ⟨b, 0, none⟩)) (c0 : w.cell? ⟨b, 0, none⟩ = some (.int .u64 m.h)) (c1 : w.cell? ⟨b, 1, none⟩ = some (.int .u64 m.t)) (c2 : w.cell? ⟨b, 2, none⟩ = some (.bool m.s)) :
    (Instr.loadAt 48 a).run Try.prog w = .ok m.val w := by
  subst ha
  unfold Nd.val
  simp [go_sem, c0, c1, c2, Try.isAgg48, Try.sizeOf48]
theorem op_load_Nd' {W : World} {ρ : Operand → Value} {d : Option Tmp} {x : Operand} {t : TypeId} {s : String} {af : Array Edge} {g : Option (Nat × Bool)} {b : Nat} {m : Nd} (hlt : b < W.heap.size)
    (c0 : W.cell? ⟨b, 0, none⟩ = some (.int .u64 m.h)) (c1 : W.cell? ⟨b, 1, none⟩ = some (.int .u64 m.t)) (c2 : W.cell? ⟨b, 2, none⟩ = some (.bool m.s)) (hx : ρ x = .pointer (some ⟨b, 0, none⟩)) :
    ∀ w, Ext W w → (execOp ρ ⟨d, .load 48 x, t, s, af, g⟩).run Try.prog w = .ok (.value m.val) w := fun w h => by
  have hc := h.cells.1
  simp only [execOp, Sem.run_bind, run_load_Nd hx ((hc _ _ hlt).trans c0) ((hc _ _ hlt).trans c1) ((hc _ _ hlt).trans c2), Result.andThen_ok]; rfl
def NdPre (W : World) (B : Nat) (m : Nd) (w : World) : Prop := Ext W w ∧ W.heap.size ≤ B ∧ Obj_ w B 3 (ndF m)
theorem ndPre_stable (W : World) (B : Nat) (m : Nd) : StableF (NdPre W B m) := fun _ _ h k => ⟨h.1.trans k, h.2.1, h.2.2.ext k⟩
end Go.Proofs.Ytfdbfdbeegalpaa
