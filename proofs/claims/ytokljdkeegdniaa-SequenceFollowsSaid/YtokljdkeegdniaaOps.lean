/-
  Operations on messages: a fresh variable, a store of three cells, a literal slice of one, append.
-/
import Derived.Test.YtokljdkeegdniaaLeaf2
import Derived.Test.YtokljdkeegdniaaMaps2
namespace Go.Proofs.Ytokljdkeegdniaa
open Go.RowKit

def idV (k : Int × Int) : Value := .agg #[.int .i64 k.1, .int .u32 k.2]
set_option maxRecDepth 100000 in
theorem run_equal_Id (w : World) (a b : Int × Int) : (Op.equal 32 (idV a) (idV b)).run Try.prog w = .ok (decide (a = b)) w := by
  have := run_equalIn_Id 9998 a.1 a.2 b.1 b.2 w
  unfold Op.equal idV
  rw [show Op.maxDepth = 9998 + 2 from rfl, this]
  congr 1
  obtain ⟨a1, a2⟩ := a
  obtain ⟨b1, b2⟩ := b
  by_cases h1 : a1 = b1 <;> by_cases h2 : a2 = b2 <;> simp [h1, h2]
theorem checkKey_Id (w : World) (em : Bool) (k : Int × Int) : (Instr.checkKey em 10000 32 (idV k)).run Try.prog w = .ok () w := by
  have h : ∀ n, (Instr.checkKey em (n + 2) 32 (idV k)).run Try.prog w = .ok () w := fun n => by
    unfold idV
    simp [Instr.checkKey, run_underlying Try.underlying32, run_underlying Try.underlying3, run_underlying Try.underlying22, part, Try.isAgg3, Try.isAgg22]
  exact h 9998
theorem keysId : KeyOps Try.prog 32 idV where
  find := findKey_asks _ Try.underlying32 (fun a b => rfl) run_equal_Id
  check := checkKey_Id
  stays w k := by
    have h : ∀ n, Instr.sameBits (n + 1) (idV k) (idV k) = true := fun n => by unfold idV; simp [Instr.sameBits]
    unfold Instr.keyThatStays
    rw [show (10000 : Nat) = 9999 + 1 from rfl, h]
    rfl

def msF (m : Ms) : Nat → Value := fun i => m.enc.getD i undef
def ms0 : Ms := ⟨0, 0, ⟨#[]⟩⟩
theorem box_Ms (w : World) (m : Ms) : Obj_ (w.alloc (.cells #[.int .i64 m.f, .int .u32 m.c, .string m.d] 34)) w.heap.size 3 (msF m) :=
  Obj_.new w _ #[.int .i64 m.f, .int .u32 m.c, .string m.d] _ (by intro i hi; simp at hi; match i, hi with | 0, _ => rfl | 1, _ => rfl | 2, _ => rfl)
theorem Obj_.ms {w : World} {b : Nat} {m : Ms} (h : Obj_ w b 3 (msF m)) : w.cell? ⟨b, 0, none⟩ = some (.int .i64 m.f) ∧ w.cell? ⟨b, 1, none⟩ = some (.int .u32 m.c) ∧ w.cell? ⟨b, 2, none⟩ = some (.string m.d) :=
  ⟨h.cell 0 (by decide), h.cell 1 (by decide), h.cell 2 (by decide)⟩

section
variable {a : Act} {d : Option Tmp} {t : TypeId} {s : String} {af : Array Edge} {g : Option (Nat × Bool)} {W w : World}
theorem run_alloc_Ms (w : World) : (Instr.alloc 34 true (.tuple #[])).run Try.prog w = .ok (.pointer (some ⟨w.heap.size, 0, none⟩)) (w.alloc (.cells #[.int .i64 ms0.f, .int .u32 ms0.c, .string ms0.d] 34)) := by
  simp [go_sem, Try.zeroValue34, ms0]
theorem stepAt_alloc_Ms (hC : Ext W w) : stepAt Try.prog ⟨d, .alloc 34, t, s, af, g⟩ a w (fun u w' => ∃ b, u = .pointer (some ⟨b, 0, none⟩) ∧ Ext w w' ∧ W.heap.size ≤ b ∧ Obj_ w' b 3 (msF ms0)) := by
  unfold stepAt
  simp only [execOp, Sem.run_bind, run_alloc_Ms, Result.andThen_ok]
  exact ⟨_, rfl, Ext.alloc _ _, hC.size, box_Ms w ms0⟩
theorem run_store_Ms {B : Nat} {f : Nat → Value} (h : Obj_ w B 3 f) (m : Ms) {q x : Value} (hq : q = .pointer (some ⟨B, 0, none⟩)) (hx : x = m.val) :
    (Instr.storeAt 34 q x).run Try.prog w = .ok () (((w.setCell ⟨B, 0, none⟩ (.int .i64 m.f)).setCell ⟨B, 1, none⟩ (.int .u32 m.c)).setCell ⟨B, 2, none⟩ (.string m.d)) := by
  subst hq; subst hx
  have h1 := h.set (i := 0) (by omega) (.int .i64 m.f)
  have h2 := h1.set (i := 1) (by omega) (.int .u32 m.c)
  have c0 := h.cell 0 (by omega)
  have c1 := h1.cell 1 (by omega)
  have c2 := h2.cell 2 (by omega)
  have f0 := h.free 0
  have f1 := h1.free 1
  have f2 := h2.free 2
  unfold Ms.val
  simp [Instr.storeAt, Instr.sureAddr, storeVar, Try.sizeOf34, Value.cells, storeCells, store, Sem.run, Addr.add, c0, c1, c2, f0, f1, f2]
theorem stepAt_store_Ms {B : Nat} {f : Nat → Value} {q x : Operand} (hC : Ext W w) (hB : W.heap.size ≤ B) (h : Obj_ w B 3 f) (m : Ms) (hq : a.eval q = .pointer (some ⟨B, 0, none⟩)) (hx : a.eval x = m.val) :
    stepAt Try.prog ⟨d, .store 34 q x, t, s, af, g⟩ a w (fun _ w' => Ext W w' ∧ Obj_ w' B 3 (msF m)) := by
  unfold stepAt
  simp only [execOp, Sem.run_bind, run_store_Ms h m hq hx, Result.andThen_ok]
  refine ⟨((hC.setNew (p := ⟨B, 0, none⟩) hB _).setNew (p := ⟨B, 1, none⟩) hB _).setNew (p := ⟨B, 2, none⟩) hB _, ?_⟩
  refine (((h.set (i := 0) (by omega) _).set (i := 1) (by omega) _).set (i := 2) (by omega) _).congr fun i hi => ?_
  match i, hi with
  | 0, _ => rfl
  | 1, _ => rfl
  | 2, _ => rfl
theorem run_lit1 (m : Ms) (w : World) {x : Value} (hx : x = m.val) : (Instr.buildSlice 40 1 #[(0, x)]).run Try.prog w = .ok (.slice (some ⟨w.heap.size, 0, none⟩) 1 1) (w.alloc (.cells #[.int .i64 m.f, .int .u32 m.c, .string m.d] 34)) := by
  subst hx
  unfold Ms.val
  simp [go_sem, Try.zeroValue34, Try.sizeOf34, Instr.buildSlice, run_underlying Try.underlying40]
theorem stepAt_lit1 {x : Operand} (hC : Ext W w) (m : Ms) (hx : a.eval x = m.val) :
    stepAt Try.prog ⟨d, .buildSlice 40 1 #[(0, x)], t, s, af, g⟩ a w (fun u w' => ∃ b, u = .slice (some ⟨b, 0, none⟩) 1 1 ∧ Ext w w' ∧ MsL w' (.slice (some ⟨b, 0, none⟩) 1 1) [m]) := by
  unfold stepAt
  simp only [execOp, Sem.run_bind, List.map_toArray, List.map_cons, List.map_nil, run_lit1 m w hx, Result.andThen_ok]
  exact ⟨_, rfl, Ext.alloc _ _, (Own.lit (enc := Ms.enc) Ms.len w [m] (by unfold maxLen; simp) (by simp) (cs := m.enc) (by simp)).sl Ms.len⟩
theorem stepAt_append {q x : Operand} {v xv : Value} {l m : List Ms} (hC : Ext W w) (h : OwnMs w v l) (hx : MsL w xv m) (hlen : l.length + m.length ≤ 1073741824) (hq : a.eval q = v) (hxe : a.eval x = xv) :
    stepAt Try.prog ⟨d, .call { callee := .builtin .append, args := #[q, x], argTypes := #[40, 40] }, t, s, af, g⟩ a w
      (fun v' w' => OwnMs w' v' (l ++ m) ∧ Mods (fun b => v.ownBlock = some b) W w' ∧ (∀ b, v'.ownBlock = some b → v.ownBlock = some b ∨ W.heap.size ≤ b)) := by
  obtain ⟨v', w', hr, h1, h2, h3⟩ := h.append hx hlen (ty := t)
  unfold stepAt
  simp only [execOp, resolve, invoke, builtin, Sem.run_bind, Sem.run_pure, Result.andThen_ok, List.map_toArray, List.map_cons, List.map_nil, hq, hxe, hr]
  exact ⟨h1, h2.after hC, fun b hb => (h3 b hb).imp id (fun hh => Nat.le_trans hC.size hh)⟩
end
end Go.Proofs.Ytokljdkeegdniaa
