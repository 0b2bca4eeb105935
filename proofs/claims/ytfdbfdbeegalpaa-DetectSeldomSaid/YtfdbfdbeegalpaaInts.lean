/-
  Slices of integers; detect.within, rostrumref07.Same.
-/
import Derived.Test.YtfdbfdbeegalpaaMaps2
import Derived.Test.YtfdbfdbeegalpaaFlex3
import Derived.Test.YtfdbfdbeegalpaaProg
import Derived.LoopTactic
import Derived.Outline
import Derived.Deep.Cut
import Derived.WalkSpells
namespace Go.Proofs.Ytfdbfdbeegalpaa
open Go.RowKit
attribute [local go_sem] Oper.semAt_some

def encI (q : IntKind) (x : Int) : List Value := [.int q x]
theorem encI_len (q : IntKind) (x : Int) : (encI q x).length = 1 := rfl
theorem encI_one (q : IntKind) (x : Int) : ∀ u ∈ encI q x, u.oneCell' = true := by intro u hu; simp [encI] at hu; subst hu; rfl
abbrev IL (q : IntKind) (w : World) (v : Value) (l : List Int) : Prop := Sl (encI q) 1 w v l
theorem Sl.at1 {q : IntKind} {w : World} {A : Option Addr} {n cap : Nat} {l : List Int} (h : IL q w (.slice A n cap) l) {j : Nat} (hj : j < l.length) :
    ∃ b off, A = some ⟨b, off, none⟩ ∧ b < w.heap.size ∧ w.cell? ⟨b, off + j, none⟩ = some (.int q l[j]) := by
  obtain ⟨A', cap', e, _, _, hc⟩ := h
  injection e with e1 e2 e3
  subst e1
  obtain ⟨b, off, rfl, hlt, hcell⟩ := hc (fun e => by rw [e] at hj; simp at hj)
  have := hcell j _ (List.getElem?_eq_getElem hj) 0 _ rfl
  refine ⟨b, off, rfl, hlt, ?_⟩
  simpa using this
theorem infoInt : (Try.prog.info? 3).map (fun i => (i.zero, i.size, i.bytes)) = some (some (.int .i64 0), 1, 8) := by kernel_rfl
abbrev OwnI (w : World) (v : Value) (l : List Int) : Prop := Own (encI .i64) 1 3 w v l
theorem OwnI.append {w : World} {v : Value} {l m : List Int} {x : Value} {ty : TypeId} (h : OwnI w v l) (hx : IL .i64 w x m) (hlen : l.length + m.length ≤ 1073741824) :
    ∃ v' w', (Builtin.append_ #[25, 25] ty #[v, x]).run Try.prog w = .ok v' w' ∧ OwnI w' v' (l ++ m) ∧ Mods (fun b => v.ownBlock = some b) w w' ∧
      (∀ b, v'.ownBlock = some b → v.ownBlock = some b ∨ w.heap.size ≤ b) := by
  obtain ⟨i0, hi, hz0, hz1, hz2⟩ := info_parts infoInt
  exact Own.append (encI_len _) (encI_one _) (by decide) Try.underlying25 hi hz0 hz1 rfl h hx hlen (by rw [hz2]; decide)
section
variable {a : Act} {d : Option Tmp} {t : TypeId} {s : String} {af : Array Edge} {g : Option (Nat × Bool)} {W w : World}
theorem stepAt_appendI {q x : Operand} {v xv : Value} {l m : List Int} (hC : Ext W w) (h : OwnI w v l) (hx : IL .i64 w xv m) (hlen : l.length + m.length ≤ 1073741824) (hq : a.eval q = v) (hxe : a.eval x = xv) :
    stepAt Try.prog ⟨d, .call { callee := .builtin .append, args := #[q, x], argTypes := #[25, 25] }, t, s, af, g⟩ a w
      (fun v' w' => OwnI w' v' (l ++ m) ∧ Mods (fun b => v.ownBlock = some b) W w' ∧ (∀ b, v'.ownBlock = some b → v.ownBlock = some b ∨ W.heap.size ≤ b)) := by
  obtain ⟨v', w', hr, h1, h2, h3⟩ := h.append hx hlen (ty := t)
  unfold stepAt
  simp only [execOp, resolve, invoke, builtin, Sem.run_bind, Sem.run_pure, Result.andThen_ok, List.map_toArray, List.map_cons, List.map_nil, hq, hxe, hr]
  exact ⟨h1, h2.after hC, fun b hb => (h3 b hb).imp id (fun hh => Nat.le_trans hC.size hh)⟩
theorem run_litI1 (m : Int) (w : World) : (Instr.buildSlice 25 1 #[(0, .int .i64 m)]).run Try.prog w = .ok (.slice (some ⟨w.heap.size, 0, none⟩) 1 1) (w.alloc (.cells #[.int .i64 m] 3)) := by
  simp [go_sem, Instr.buildSlice, run_underlying Try.underlying25]
theorem run_litI2 (m n : Int) (w : World) : (Instr.buildSlice 25 2 #[(0, .int .i64 m), (1, .int .i64 n)]).run Try.prog w = .ok (.slice (some ⟨w.heap.size, 0, none⟩) 2 2) (w.alloc (.cells #[.int .i64 m, .int .i64 n] 3)) := by
  simp [go_sem, Instr.buildSlice, run_underlying Try.underlying25]
theorem run_litU1 (m : Int) (w : World) : (Instr.buildSlice 42 1 #[(0, .int .u64 m)]).run Try.prog w = .ok (.slice (some ⟨w.heap.size, 0, none⟩) 1 1) (w.alloc (.cells #[.int .u64 m] 22)) := by
  simp [go_sem, Instr.buildSlice, run_underlying Try.underlying42]
theorem run_litU3 (m n o : Int) (w : World) : (Instr.buildSlice 42 3 #[(0, .int .u64 m), (1, .int .u64 n), (2, .int .u64 o)]).run Try.prog w = .ok (.slice (some ⟨w.heap.size, 0, none⟩) 3 3) (w.alloc (.cells #[.int .u64 m, .int .u64 n, .int .u64 o] 22)) := by
  simp [go_sem, Instr.buildSlice, run_underlying Try.underlying42]
theorem litIL {q : IntKind} {e : TypeId} (w : World) (l : List Int) (hl : l.length ≤ 8) (hne : l ≠ []) : IL q (w.alloc (.cells (l.map (Value.int q)).toArray e)) (.slice (some ⟨w.heap.size, 0, none⟩) l.length l.length) l := by
  have := (Own.lit (enc := encI q) (e := e) (encI_len q) w l (by unfold maxLen; omega) hne (cs := l.map (Value.int q)) (by induction l with
    | nil => rfl
    | cons a t ih => cases t with
      | nil => rfl
      | cons b u => simp only [List.flatMap_cons] at ih ⊢; rw [ih (by simp at hl ⊢; omega) (by simp)]; rfl))
  exact this.sl (encI_len q)
theorem stepAt_litI1 {x : Operand} (hC : Ext W w) (m : Int) (hx : a.eval x = .int .i64 m) :
    stepAt Try.prog ⟨d, .buildSlice 25 1 #[(0, x)], t, s, af, g⟩ a w (fun u w' => ∃ b, u = .slice (some ⟨b, 0, none⟩) 1 1 ∧ Ext w w' ∧ IL .i64 w' (.slice (some ⟨b, 0, none⟩) 1 1) [m]) := by
  unfold stepAt
  simp only [execOp, Sem.run_bind, List.map_toArray, List.map_cons, List.map_nil, hx, run_litI1, Result.andThen_ok]
  exact ⟨_, rfl, Ext.alloc _ _, litIL w [m] (by simp) (by simp)⟩
theorem stepAt_litI2 {x y : Operand} (hC : Ext W w) (m n : Int) (hx : a.eval x = .int .i64 m) (hy : a.eval y = .int .i64 n) :
    stepAt Try.prog ⟨d, .buildSlice 25 2 #[(0, x), (1, y)], t, s, af, g⟩ a w (fun u w' => ∃ b, u = .slice (some ⟨b, 0, none⟩) 2 2 ∧ Ext w w' ∧ IL .i64 w' (.slice (some ⟨b, 0, none⟩) 2 2) [m, n]) := by
  unfold stepAt
  simp only [execOp, Sem.run_bind, List.map_toArray, List.map_cons, List.map_nil, hx, hy, run_litI2, Result.andThen_ok]
  exact ⟨_, rfl, Ext.alloc _ _, litIL w [m, n] (by simp) (by simp)⟩
theorem stepAt_litU1 {x : Operand} (hC : Ext W w) (m : Int) (hx : a.eval x = .int .u64 m) :
    stepAt Try.prog ⟨d, .buildSlice 42 1 #[(0, x)], t, s, af, g⟩ a w (fun u w' => ∃ b, u = .slice (some ⟨b, 0, none⟩) 1 1 ∧ Ext w w' ∧ IL .u64 w' (.slice (some ⟨b, 0, none⟩) 1 1) [m]) := by
  unfold stepAt
  simp only [execOp, Sem.run_bind, List.map_toArray, List.map_cons, List.map_nil, hx, run_litU1, Result.andThen_ok]
  exact ⟨_, rfl, Ext.alloc _ _, litIL w [m] (by simp) (by simp)⟩
theorem stepAt_litU3 {x y z : Operand} (hC : Ext W w) (m n o : Int) (hx : a.eval x = .int .u64 m) (hy : a.eval y = .int .u64 n) (hz : a.eval z = .int .u64 o) :
    stepAt Try.prog ⟨d, .buildSlice 42 3 #[(0, x), (1, y), (2, z)], t, s, af, g⟩ a w (fun u w' => ∃ b, u = .slice (some ⟨b, 0, none⟩) 3 3 ∧ Ext w w' ∧ IL .u64 w' (.slice (some ⟨b, 0, none⟩) 3 3) [m, n, o]) := by
  unfold stepAt
  simp only [execOp, Sem.run_bind, List.map_toArray, List.map_cons, List.map_nil, hx, hy, hz, run_litU3, Result.andThen_ok]
  exact ⟨_, rfl, Ext.alloc _ _, litIL w [m, n, o] (by simp) (by simp)⟩
end

def inB (lo hi : Int) (l : List Int) : Bool := l.all (fun x => decide (lo ≤ x ∧ x ≤ hi))
theorem inB_one (lo hi x : Int) : inB lo hi [x] = decide (lo ≤ x ∧ x ≤ hi) := by simp [inB]
theorem inB_cut {lo hi : Int} {l : List Int} {k : Nat} (hk : k < l.length) (h : ¬ (lo ≤ l[k] ∧ l[k] ≤ hi)) : inB lo hi l = false := by
  unfold inB
  rw [Bool.eq_false_iff]
  intro hh
  have := List.all_eq_true.1 hh l[k] (List.getElem_mem hk)
  simp at this
  exact h this
theorem inB_all {lo hi : Int} {l : List Int} (h : ∀ k (hk : k < l.length), lo ≤ l[k] ∧ l[k] ≤ hi) : inB lo hi l = true := by
  unfold inB
  rw [List.all_eq_true]
  intro x hx
  obtain ⟨k, hk, rfl⟩ := List.getElem_of_mem hx
  simpa using h k hk
set_option maxRecDepth 100000 in
theorem withinI_at (w : World) (lo hi : Int) (v : Value) (l : List Int) (hl : IL .i64 w v l) (hlen : l.length ≤ 8) :
    Calls Try.prog 19 #[.int .i64 lo, .int .i64 hi, v] w fun e w' => e = .returned (.bool (inB lo hi l)) ∧ w' = w := by
  obtain ⟨A, cap, rfl, hc1, hc2⟩ := hl.val
  have HL := Lib.hid hl
  clear hl hc1 hc2
  go_enter Try.func19, Try.ntmps19
  go_wp2
  go_loopw [11] (fun i wr => ∃ k : Nat, k ≤ l.length ∧ i = .int .i64 k ∧ Hid (∀ j (hj : j < l.length), j < k → lo ≤ l[j] ∧ l[j] ≤ hi) ∧ wr = w) (fun i _ => l.length - (intOf i).toNat)
  case atStart => exact ⟨0, Nat.zero_le _, rfl, Lib.hid (fun j _ h => by omega), rfl⟩
  case round =>
    obtain ⟨k, hk, rfl, hP, rfl⟩ := hrel
    have hwk : IntKind.i64.wrap ((k : Int) + 1) = (k : Int) + 1 := IntWalk.i64_in _ ⟨by omega, by omega⟩
    by_cases hlt : k < l.length
    · obtain ⟨b, off, rfl, hbl, c0⟩ := Sl.at1 HL.out hlt
      have hcut := inB_cut (lo := lo) (hi := hi) hlt
      have Hcut := Lib.hid hcut
      obtain ⟨x, hx⟩ : ∃ x, l[k] = x := ⟨_, rfl⟩
      rw [hx] at c0
      have Hx := Lib.hid hx
      clear hcut hx
      by_cases h1 : x < lo
      · have ht1 : decide (x < lo) = true := by simp [h1]
        have e : inB lo hi l = false := Hcut.out (by rw [Hx.out]; omega)
        have He := Lib.hid e
        clear e
        go_wp2
        go_ret
        exact ⟨by rw [He.out]; rfl, rfl⟩
      · have ht1 : decide (x < lo) = false := by simp [h1]
        by_cases h2 : hi < x
        · have ht2 : decide (hi < x) = true := by simp [h2]
          have e : inB lo hi l = false := Hcut.out (by rw [Hx.out]; omega)
          have He := Lib.hid e
          clear e
          go_wp2
          go_ret
          exact ⟨by rw [He.out]; rfl, rfl⟩
        · have ht2 : decide (hi < x) = false := by simp [h2]
          go_wp2
          go_roundw
          case rel => exact ⟨k + 1, by omega, by go_num, Lib.hid (fun j hj h => by
            by_cases e : j = k
            · subst e; rw [Hx.out]; omega
            · exact hP.out j hj (by omega)), by first | rfl | trivial⟩
          case measure => simp [intOf]; omega
    · have e : inB lo hi l = true := inB_all (fun j hj => hP.out j hj (by omega))
      have He := Lib.hid e
      clear e
      go_wp2
      go_ret
      exact ⟨by rw [He.out]; rfl, rfl⟩
set_option maxRecDepth 100000 in
theorem withinU_at (w : World) (lo hi : Int) (v : Value) (l : List Int) (hl : IL .u64 w v l) (hlen : l.length ≤ 8) :
    Calls Try.prog 22 #[.int .u64 lo, .int .u64 hi, v] w fun e w' => e = .returned (.bool (inB lo hi l)) ∧ w' = w := by
  obtain ⟨A, cap, rfl, hc1, hc2⟩ := hl.val
  have HL := Lib.hid hl
  clear hl hc1 hc2
  go_enter Try.func22, Try.ntmps22
  go_wp2
  go_loopw [11] (fun i wr => ∃ k : Nat, k ≤ l.length ∧ i = .int .i64 k ∧ Hid (∀ j (hj : j < l.length), j < k → lo ≤ l[j] ∧ l[j] ≤ hi) ∧ wr = w) (fun i _ => l.length - (intOf i).toNat)
  case atStart => exact ⟨0, Nat.zero_le _, rfl, Lib.hid (fun j _ h => by omega), rfl⟩
  case round =>
    obtain ⟨k, hk, rfl, hP, rfl⟩ := hrel
    have hwk : IntKind.i64.wrap ((k : Int) + 1) = (k : Int) + 1 := IntWalk.i64_in _ ⟨by omega, by omega⟩
    by_cases hlt : k < l.length
    · obtain ⟨b, off, rfl, hbl, c0⟩ := Sl.at1 HL.out hlt
      have hcut := inB_cut (lo := lo) (hi := hi) hlt
      have Hcut := Lib.hid hcut
      obtain ⟨x, hx⟩ : ∃ x, l[k] = x := ⟨_, rfl⟩
      rw [hx] at c0
      have Hx := Lib.hid hx
      clear hcut hx
      by_cases h1 : x < lo
      · have ht1 : decide (x < lo) = true := by simp [h1]
        have e : inB lo hi l = false := Hcut.out (by rw [Hx.out]; omega)
        have He := Lib.hid e
        clear e
        go_wp2
        go_ret
        exact ⟨by rw [He.out]; rfl, rfl⟩
      · have ht1 : decide (x < lo) = false := by simp [h1]
        by_cases h2 : hi < x
        · have ht2 : decide (hi < x) = true := by simp [h2]
          have e : inB lo hi l = false := Hcut.out (by rw [Hx.out]; omega)
          have He := Lib.hid e
          clear e
          go_wp2
          go_ret
          exact ⟨by rw [He.out]; rfl, rfl⟩
        · have ht2 : decide (hi < x) = false := by simp [h2]
          go_wp2
          go_roundw
          case rel => exact ⟨k + 1, by omega, by go_num, Lib.hid (fun j hj h => by
            by_cases e : j = k
            · subst e; rw [Hx.out]; omega
            · exact hP.out j hj (by omega)), by first | rfl | trivial⟩
          case measure => simp [intOf]; omega
    · have e : inB lo hi l = true := inB_all (fun j hj => hP.out j hj (by omega))
      have He := Lib.hid e
      clear e
      go_wp2
      go_ret
      exact ⟨by rw [He.out]; rfl, rfl⟩
end Go.Proofs.Ytfdbfdbeegalpaa
