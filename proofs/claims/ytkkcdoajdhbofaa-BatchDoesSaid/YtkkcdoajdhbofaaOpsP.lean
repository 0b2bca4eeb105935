/-
  Operations on pending messages, which lie as messages do.
-/
import Derived.Test.YtkkcdoajdhbofaaPlainP
namespace Go.Proofs.Ytkkcdoajdhbofaa
open Go.RowKit
theorem run_load_Pd {a : Value} {b o : Nat} {m : Ms} {w : World} (ha : a = .pointer (some ⟨b, o, none⟩)) (c0 : w.cell? ⟨b, o, none⟩ = some (.int .i64 m.f)) (c1 : w.cell? ⟨b, o + 1, none⟩ = some (.int .u32 m.c)) (c2 : w.cell? ⟨b, o + 2, none⟩ = some (.string m.d)) :
    (Instr.loadAt 61 a).run Try.prog w = .ok m.val w := by
  subst ha
  unfold Ms.val
  simp [go_sem, c0, c1, c2, Try.isAgg61, Try.sizeOf61]
theorem op_load_Pd {ρ : Operand → Value} {d : Option Tmp} {x : Operand} {t : TypeId} {s : String} {af : Array Edge} {g : Option (Nat × Bool)} {b o : Nat} {m : Ms} {w : World} (hx : ρ x = .pointer (some ⟨b, o, none⟩))
    (c0 : w.cell? ⟨b, o, none⟩ = some (.int .i64 m.f)) (c1 : w.cell? ⟨b, o + 1, none⟩ = some (.int .u32 m.c)) (c2 : w.cell? ⟨b, o + 2, none⟩ = some (.string m.d)) :
    (execOp ρ ⟨d, .load 61 x, t, s, af, g⟩).run Try.prog w = .ok (.value m.val) w := by
  simp only [execOp, Sem.run_bind, run_load_Pd hx c0 c1 c2, Result.andThen_ok]; rfl
/-- .. in a world that has grown. -/
theorem op_load_Pd' {W : World} {ρ : Operand → Value} {d : Option Tmp} {x : Operand} {t : TypeId} {s : String} {af : Array Edge} {g : Option (Nat × Bool)} {b o : Nat} {m : Ms} (hlt : b < W.heap.size)
    (c0 : W.cell? ⟨b, o, none⟩ = some (.int .i64 m.f)) (c1 : W.cell? ⟨b, o + 1, none⟩ = some (.int .u32 m.c)) (c2 : W.cell? ⟨b, o + 2, none⟩ = some (.string m.d)) (hx : ρ x = .pointer (some ⟨b, o, none⟩)) :
    ∀ w, Ext W w → (execOp ρ ⟨d, .load 61 x, t, s, af, g⟩).run Try.prog w = .ok (.value m.val) w := fun w h => by
  have hc := h.cells.1
  exact op_load_Pd hx ((hc _ _ hlt).trans c0) ((hc _ _ hlt).trans c1) ((hc _ _ hlt).trans c2)

theorem infoPd : (Try.prog.info? 61).map (fun i => (i.zero, i.size, i.bytes)) = some (some (.agg #[.int .i64 0, .int .u32 0, .string ⟨#[]⟩]), 3, 32) := by kernel_rfl
abbrev OwnPd (w : World) (v : Value) (l : List Ms) : Prop := Own Ms.enc 3 61 w v l
theorem OwnPd.append {w : World} {v : Value} {l m : List Ms} {x : Value} {ty : TypeId} (h : OwnPd w v l) (hx : MsL w x m) (hlen : l.length + m.length ≤ 1073741824) :
    ∃ v' w', (Builtin.append_ #[71, 71] ty #[v, x]).run Try.prog w = .ok v' w' ∧ OwnPd w' v' (l ++ m) ∧ Mods (fun b => v.ownBlock = some b) w w' ∧
      (∀ b, v'.ownBlock = some b → v.ownBlock = some b ∨ w.heap.size ≤ b) := by
  obtain ⟨i0, hi, hz0, hz1, hz2⟩ := info_parts infoPd
  exact Own.append Ms.len Ms.one (by decide) Try.underlying71 hi hz0 hz1 rfl h hx hlen (by rw [hz2]; decide)

theorem box_Pd (w : World) (m : Ms) : Obj_ (w.alloc (.cells #[.int .i64 m.f, .int .u32 m.c, .string m.d] 61)) w.heap.size 3 (msF m) :=
  Obj_.new w _ #[.int .i64 m.f, .int .u32 m.c, .string m.d] _ (by intro i hi; simp at hi; match i, hi with | 0, _ => rfl | 1, _ => rfl | 2, _ => rfl)
section
variable {a : Act} {d : Option Tmp} {t : TypeId} {s : String} {af : Array Edge} {g : Option (Nat × Bool)} {W w : World}
theorem run_alloc_Pd (w : World) : (Instr.alloc 61 true (.tuple #[])).run Try.prog w = .ok (.pointer (some ⟨w.heap.size, 0, none⟩)) (w.alloc (.cells #[.int .i64 ms0.f, .int .u32 ms0.c, .string ms0.d] 61)) := by
  simp [go_sem, Try.zeroValue61, ms0]
theorem stepAt_alloc_Pd (hC : Ext W w) : stepAt Try.prog ⟨d, .alloc 61, t, s, af, g⟩ a w (fun u w' => ∃ b, u = .pointer (some ⟨b, 0, none⟩) ∧ Ext w w' ∧ W.heap.size ≤ b ∧ Obj_ w' b 3 (msF ms0)) := by
  unfold stepAt
  simp only [execOp, Sem.run_bind, run_alloc_Pd, Result.andThen_ok]
  exact ⟨_, rfl, Ext.alloc _ _, hC.size, box_Pd w ms0⟩
theorem run_store_Pd {B : Nat} {f : Nat → Value} (h : Obj_ w B 3 f) (m : Ms) {q x : Value} (hq : q = .pointer (some ⟨B, 0, none⟩)) (hx : x = m.val) :
    (Instr.storeAt 61 q x).run Try.prog w = .ok () (((w.setCell ⟨B, 0, none⟩ (.int .i64 m.f)).setCell ⟨B, 1, none⟩ (.int .u32 m.c)).setCell ⟨B, 2, none⟩ (.string m.d)) := by
  subst hq; subst hx
  have h1 := h.set (i := 0) (by omega) (.int .i64 m.f)
  have h2 := h1.set (i := 1) (by omega) (.int .u32 m.c)
  have c0 := h.cell 0 (by omega)
  have c1 := h1.cell 1 (by omega)
  have c2 := h2.cell 2 (by omega)
  have f0 := h.free 0
  have f1 := h1.free 1
  have f2 := h2.free 2
  unfold Ms.val
  simp [Instr.storeAt, Instr.sureAddr, storeVar, Try.sizeOf61, Value.cells, storeCells, store, Sem.run, Addr.add, c0, c1, c2, f0, f1, f2]
theorem stepAt_store_Pd {B : Nat} {f : Nat → Value} {q x : Operand} (hC : Ext W w) (hB : W.heap.size ≤ B) (h : Obj_ w B 3 f) (m : Ms) (hq : a.eval q = .pointer (some ⟨B, 0, none⟩)) (hx : a.eval x = m.val) :
    stepAt Try.prog ⟨d, .store 61 q x, t, s, af, g⟩ a w (fun _ w' => Ext W w' ∧ Obj_ w' B 3 (msF m)) := by
  unfold stepAt
  simp only [execOp, Sem.run_bind, run_store_Pd h m hq hx, Result.andThen_ok]
  refine ⟨((hC.setNew (p := ⟨B, 0, none⟩) hB _).setNew (p := ⟨B, 1, none⟩) hB _).setNew (p := ⟨B, 2, none⟩) hB _, ?_⟩
  refine (((h.set (i := 0) (by omega) _).set (i := 1) (by omega) _).set (i := 2) (by omega) _).congr fun i hi => ?_
  match i, hi with
  | 0, _ => rfl
  | 1, _ => rfl
  | 2, _ => rfl
theorem run_lit1P (m : Ms) (w : World) {x : Value} (hx : x = m.val) : (Instr.buildSlice 71 1 #[(0, x)]).run Try.prog w = .ok (.slice (some ⟨w.heap.size, 0, none⟩) 1 1) (w.alloc (.cells #[.int .i64 m.f, .int .u32 m.c, .string m.d] 61)) := by
  subst hx
  unfold Ms.val
  simp [go_sem, Try.zeroValue61, Try.sizeOf61, Instr.buildSlice, run_underlying Try.underlying71]
theorem stepAt_lit1P {x : Operand} (hC : Ext W w) (m : Ms) (hx : a.eval x = m.val) :
    stepAt Try.prog ⟨d, .buildSlice 71 1 #[(0, x)], t, s, af, g⟩ a w (fun u w' => ∃ b, u = .slice (some ⟨b, 0, none⟩) 1 1 ∧ Ext w w' ∧ MsL w' (.slice (some ⟨b, 0, none⟩) 1 1) [m]) := by
  unfold stepAt
  simp only [execOp, Sem.run_bind, List.map_toArray, List.map_cons, List.map_nil, run_lit1P m w hx, Result.andThen_ok]
  exact ⟨_, rfl, Ext.alloc _ _, (Own.lit (enc := Ms.enc) Ms.len w [m] (by unfold maxLen; simp) (by simp) (cs := m.enc) (by simp)).sl Ms.len⟩
theorem stepAt_appendP {q x : Operand} {v xv : Value} {l m : List Ms} (hC : Ext W w) (h : OwnPd w v l) (hx : MsL w xv m) (hlen : l.length + m.length ≤ 1073741824) (hq : a.eval q = v) (hxe : a.eval x = xv) :
    stepAt Try.prog ⟨d, .call { callee := .builtin .append, args := #[q, x], argTypes := #[71, 71] }, t, s, af, g⟩ a w
      (fun v' w' => OwnPd w' v' (l ++ m) ∧ Mods (fun b => v.ownBlock = some b) W w' ∧ (∀ b, v'.ownBlock = some b → v.ownBlock = some b ∨ W.heap.size ≤ b)) := by
  obtain ⟨v', w', hr, h1, h2, h3⟩ := h.append hx hlen (ty := t)
  unfold stepAt
  simp only [execOp, resolve, invoke, builtin, Sem.run_bind, Sem.run_pure, Result.andThen_ok, List.map_toArray, List.map_cons, List.map_nil, hq, hxe, hr]
  exact ⟨h1, h2.after hC, fun b hb => (h3 b hb).imp id (fun hh => Nat.le_trans hC.size hh)⟩
end

/-! ### ids -/
def idF (f c : Int) : Nat → Value := fun i => [Value.int .i64 f, .int .u32 c].getD i undef
theorem box_Id (w : World) (f c : Int) : Obj_ (w.alloc (.cells #[.int .i64 f, .int .u32 c] 25)) w.heap.size 2 (idF f c) :=
  Obj_.new w _ #[.int .i64 f, .int .u32 c] _ (by intro i hi; simp at hi; match i, hi with | 0, _ => rfl | 1, _ => rfl)
def MsPre (W : World) (B : Nat) (m : Ms) (w : World) : Prop := Ext W w ∧ W.heap.size ≤ B ∧ Obj_ w B 3 (msF m)
theorem msPre_stable (W : World) (B : Nat) (m : Ms) : StableF (MsPre W B m) := fun _ _ h k => ⟨h.1.trans k, h.2.1, h.2.2.ext k⟩
theorem lookVal (o : Option Ms) : ((o.map Ms.val).getD (.agg #[.int .i64 0, .int .u32 0, .string ⟨#[]⟩]) : Value) = (o.getD ms0).val := by cases o <;> rfl
theorem guard_Id (op : BinOp) (x y : Operand) (a b : Int × Int) (w : World) : (eqGuard op 25 x y (idV a) (idV b)).run Try.prog w = .ok () w :=
  run_eqGuard_agg w op _ x y _ _ (by kernel_rfl)
theorem run_eql_Id (a b : Int × Int) (w : World) : (binOp .eql 25 (idV a) (idV b)).run Try.prog w = .ok (.bool (decide (a = b))) w := by
  have := run_equalIn_Id 9998 a.1 a.2 b.1 b.2 w
  unfold idV
  rw [run_eql_struct, this]
  obtain ⟨a1, a2⟩ := a
  obtain ⟨b1, b2⟩ := b
  by_cases h1 : a1 = b1 <;> by_cases h2 : a2 = b2 <;> simp [h1, h2, Result.andThen]
theorem op_eql_Id {ρ : Operand → Value} {d : Option Tmp} {x y : Operand} {u t : TypeId} {s : String} {af : Array Edge} {g : Option (Nat × Bool)} (a b : Int × Int) (hx : ρ x = idV a) (hy : ρ y = idV b) (w : World) :
    (execOp ρ ⟨d, .binOp .eql 25 x y u, t, s, af, g⟩).run Try.prog w = .ok (.value (.bool (decide (a = b)))) w := by
  simp only [execOp, hx, hy, Sem.run_bind, guard_Id, run_eql_Id, Result.andThen_ok]; rfl
end Go.Proofs.Ytkkcdoajdhbofaa
