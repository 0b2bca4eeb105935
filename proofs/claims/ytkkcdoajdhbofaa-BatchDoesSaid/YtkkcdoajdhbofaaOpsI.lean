/-
  Slices of ids.
-/
import Derived.Test.YtkkcdoajdhbofaaOpsP
namespace Go.Proofs.Ytkkcdoajdhbofaa
open Go.RowKit

def idE (k : Int × Int) : List Value := [.int .i64 k.1, .int .u32 k.2]
theorem idE_len (k : Int × Int) : (idE k).length = 2 := rfl
theorem idE_one (k : Int × Int) : ∀ u ∈ idE k, u.oneCell' = true := by intro u hu; simp [idE] at hu; rcases hu with rfl | rfl <;> rfl
abbrev IdL (w : World) (v : Value) (l : List (Int × Int)) : Prop := Sl idE 2 w v l
abbrev OwnId (w : World) (v : Value) (l : List (Int × Int)) : Prop := Own idE 2 25 w v l
theorem Sl.at2 {w : World} {A : Option Addr} {n cap : Nat} {l : List (Int × Int)} (h : IdL w (.slice A n cap) l) {j : Nat} (hj : j < l.length) :
    ∃ b off, A = some ⟨b, off, none⟩ ∧ b < w.heap.size ∧ w.cell? ⟨b, off + j * 2, none⟩ = some (.int .i64 l[j].1) ∧ w.cell? ⟨b, off + j * 2 + 1, none⟩ = some (.int .u32 l[j].2) := by
  obtain ⟨A', cap', e, _, _, hc⟩ := h
  injection e with e1 e2 e3
  subst e1
  obtain ⟨b, off, rfl, hlt, hcell⟩ := hc (fun e => by rw [e] at hj; simp at hj)
  have := hcell j _ (List.getElem?_eq_getElem hj)
  exact ⟨b, off, rfl, hlt, this 0 _ rfl, this 1 _ rfl⟩
theorem infoId : (Try.prog.info? 25).map (fun i => (i.zero, i.size, i.bytes)) = some (some (.agg #[.int .i64 0, .int .u32 0]), 2, 16) := by kernel_rfl
theorem OwnId.append {w : World} {v : Value} {l m : List (Int × Int)} {x : Value} {ty : TypeId} (h : OwnId w v l) (hx : IdL w x m) (hlen : l.length + m.length ≤ 1073741824) :
    ∃ v' w', (Builtin.append_ #[31, 31] ty #[v, x]).run Try.prog w = .ok v' w' ∧ OwnId w' v' (l ++ m) ∧ Mods (fun b => v.ownBlock = some b) w w' ∧
      (∀ b, v'.ownBlock = some b → v.ownBlock = some b ∨ w.heap.size ≤ b) := by
  obtain ⟨i0, hi, hz0, hz1, hz2⟩ := info_parts infoId
  exact Own.append idE_len idE_one (by decide) Try.underlying31 hi hz0 hz1 rfl h hx hlen (by rw [hz2]; decide)
section
variable {a : Act} {d : Option Tmp} {t : TypeId} {s : String} {af : Array Edge} {g : Option (Nat × Bool)} {W w : World}
theorem run_lit1I (m : Int × Int) (w : World) {x : Value} (hx : x = idV m) : (Instr.buildSlice 31 1 #[(0, x)]).run Try.prog w = .ok (.slice (some ⟨w.heap.size, 0, none⟩) 1 1) (w.alloc (.cells #[.int .i64 m.1, .int .u32 m.2] 25)) := by
  subst hx
  unfold idV
  simp [go_sem, Try.zeroValue25, Try.sizeOf25, Instr.buildSlice, run_underlying Try.underlying31]
theorem stepAt_lit1I {x : Operand} (hC : Ext W w) (m : Int × Int) (hx : a.eval x = idV m) :
    stepAt Try.prog ⟨d, .buildSlice 31 1 #[(0, x)], t, s, af, g⟩ a w (fun u w' => ∃ b, u = .slice (some ⟨b, 0, none⟩) 1 1 ∧ Ext w w' ∧ IdL w' (.slice (some ⟨b, 0, none⟩) 1 1) [m]) := by
  unfold stepAt
  simp only [execOp, Sem.run_bind, List.map_toArray, List.map_cons, List.map_nil, run_lit1I m w hx, Result.andThen_ok]
  exact ⟨_, rfl, Ext.alloc _ _, (Own.lit (enc := idE) idE_len w [m] (by unfold maxLen; simp) (by simp) (cs := idE m) (by simp)).sl idE_len⟩
theorem stepAt_appendI {q x : Operand} {v xv : Value} {l m : List (Int × Int)} (hC : Ext W w) (h : OwnId w v l) (hx : IdL w xv m) (hlen : l.length + m.length ≤ 1073741824) (hq : a.eval q = v) (hxe : a.eval x = xv) :
    stepAt Try.prog ⟨d, .call { callee := .builtin .append, args := #[q, x], argTypes := #[31, 31] }, t, s, af, g⟩ a w
      (fun v' w' => OwnId w' v' (l ++ m) ∧ Mods (fun b => v.ownBlock = some b) W w' ∧ (∀ b, v'.ownBlock = some b → v.ownBlock = some b ∨ W.heap.size ≤ b)) := by
  obtain ⟨v', w', hr, h1, h2, h3⟩ := h.append hx hlen (ty := t)
  unfold stepAt
  simp only [execOp, resolve, invoke, builtin, Sem.run_bind, Sem.run_pure, Result.andThen_ok, List.map_toArray, List.map_cons, List.map_nil, hq, hxe, hr]
  exact ⟨h1, h2.after hC, fun b hb => (h3 b hb).imp id (fun hh => Nat.le_trans hC.size hh)⟩
end
end Go.Proofs.Ytkkcdoajdhbofaa
