/-
  Contracts of small functions: Right (twice), isNode, Same.
-/
import Derived.Test.YtokljdkeegdniaaMem
import Derived.Test.YtokljdkeegdniaaProg
import Derived.BigQuiet
import Derived.WalkSpells
import Derived.Lib.LazyBuf
import Derived.LoopTactic
import Derived.Outline
namespace Go.Proofs.Ytokljdkeegdniaa
open Go.RowKit

theorem isNode_ids (f : Int) (w : World) : Calls Try.prog 41 #[.int .i64 f] w fun e w' => e = .returned (.bool (decide (0 ≤ f ∧ f < 16))) ∧ w = w' := by
  obtain ⟨b, hb⟩ : ∃ b, b = decide (0 ≤ f ∧ f < 16) := ⟨_, rfl⟩
  rw [← hb]
  by_cases h1 : 0 ≤ f
  · by_cases h2 : f < 16
    · obtain rfl : b = true := by rw [hb]; simp [h1, h2]
      clear hb
      go_enter Try.func41, Try.ntmps41
      go_wp2
      go_ret
      exact ⟨rfl, rfl⟩
    · obtain rfl : b = false := by rw [hb]; simp [h2]
      clear hb
      go_enter Try.func41, Try.ntmps41
      go_wp2
      go_ret
      exact ⟨rfl, rfl⟩
  · obtain rfl : b = false := by rw [hb]; simp [h1]
    clear hb
    go_enter Try.func41, Try.ntmps41
    go_wp2
    go_ret
    exact ⟨rfl, rfl⟩

theorem ret_bool {a b : Bool} (h : a = b) : Ending.returned (.bool a) = Ending.returned (.bool b) := by rw [h]
theorem ret_int {k : IntKind} {a b : Int} (h : a = b) : Ending.returned (.int k a) = .returned (.int k b) := by rw [h]

theorem rightB_ways (f : Int) (c : Int) (d : ByteArray) :
    (rightB ⟨f, c, d⟩ = true ∧ 0 ≤ f ∧ f < 16 ∧ (1 : Int) ≤ c ∧ (c : Int) ≤ 4294967294 ∧ (d.size : Int) ≤ 1000) ∨ (rightB ⟨f, c, d⟩ = false ∧
      (f < 0 ∨ (0 ≤ f ∧ 16 ≤ f) ∨ (0 ≤ f ∧ f < 16 ∧ (c : Int) < 1) ∨ (0 ≤ f ∧ f < 16 ∧ (1 : Int) ≤ c ∧ 4294967294 < (c : Int)) ∨ (0 ≤ f ∧ f < 16 ∧ (1 : Int) ≤ c ∧ (c : Int) ≤ 4294967294 ∧ 1000 < (d.size : Int)))) := by
  unfold rightB
  by_cases h : 0 ≤ f ∧ f < 16 ∧ 1 ≤ c ∧ c ≤ 4294967294 ∧ d.size ≤ 1000
  · exact .inl ⟨by simpa using h, by omega⟩
  · refine .inr ⟨by simpa using h, ?_⟩
    omega

set_option maxRecDepth 100000 in
theorem right_ref (m : Ms) (w : World) : Calls Try.prog 32 #[m.val] w fun e w' => e = .returned (.bool (rightB m)) ∧ Ext w w' := by
  obtain ⟨f, c, d⟩ := m
  have H := rightB_ways f c d
  unfold Ms.val
  simp only
  generalize rightB ⟨f, c, d⟩ = b at *
  rcases H with ⟨rfl, h1, h2, h3, h4, h5⟩ | ⟨rfl, h1 | ⟨h1, h2⟩ | ⟨h1, h2, h3⟩ | ⟨h1, h2, h3, h4⟩ | ⟨h1, h2, h3, h4, h5⟩⟩
  all_goals
    go_enter Try.func32, Try.ntmps32
    go_wp2
    go_ret
    exact ⟨ret_bool (by simp <;> omega), Ext.alloc _ _⟩

set_option maxRecDepth 100000 in
theorem right_ids (m : Ms) (w : World) : Calls Try.prog 30 #[m.val] w fun e w' => e = .returned (.bool (rightB m)) ∧ Ext w w' := by
  obtain ⟨f, c, d⟩ := m
  have H := rightB_ways f c d
  unfold Ms.val
  simp only
  generalize rightB ⟨f, c, d⟩ = b at *
  have hn := fun w => isNode_ids f w
  have Hn := Lib.hid hn
  clear hn
  rcases H with ⟨rfl, h1, h2, h3, h4, h5⟩ | ⟨rfl, h1 | ⟨h1, h2⟩ | ⟨h1, h2, h3⟩ | ⟨h1, h2, h3, h4⟩ | ⟨h1, h2, h3, h4, h5⟩⟩
  all_goals
    cases hb1 : decide (0 ≤ f ∧ f < 16)
    all_goals first
      | (exfalso; simp at hb1; omega)
      | (have Hb := Lib.hid hb1
         clear hb1
         go_enter Try.func30, Try.ntmps30
         go_wp2_with (go_at_call 41; refine (Hn.out _).mono ?_; rintro e w1 ⟨rfl, rfl⟩; rw [Hb.out])
         all_goals
           go_ret
           exact ⟨ret_bool (by simp <;> omega), Ext.alloc _ _⟩)

theorem isAgg_Ms (w : World) : (isAgg 34).run Try.prog w = .ok true w := Try.isAgg34 w
theorem Ms_eq (a b : Ms) : decide (a = b) = (a.f == b.f && (a.c == b.c && a.d.toList == b.d.toList)) := by
  obtain ⟨f, c, d⟩ := a
  obtain ⟨f', c', d'⟩ := b
  have hd : (d.toList == d'.toList) = decide (d = d') := by
    by_cases h : d = d'
    · subst h; simp
    · have : d.toList ≠ d'.toList := fun e => h (by
        rw [ByteArray.toList_eq, ByteArray.toList_eq] at e
        obtain ⟨⟨x⟩⟩ := d
        obtain ⟨⟨y⟩⟩ := d'
        simpa using e)
      simp [h, this]
  rw [hd]
  by_cases h1 : f = f' <;> by_cases h2 : c = c' <;> by_cases h3 : d = d' <;> simp [h1, h2, h3]

theorem run_equalIn_Id (n : Nat) (f c f' c' : Int) (w : World) :
    (Op.equalIn (n + 2) 32 (.agg #[.int .i64 f, .int .u32 c]) (.agg #[.int .i64 f', .int .u32 c'])).run Try.prog w = .ok (f == f' && c == c') w := by
  have hS : Try.prog.underlying 32 = some (.struct (Try.prog.fieldsOf 32)) := by kernel_rfl
  have hp : Try.prog.stoodInHeld 32 = false := by kernel_rfl
  rw [run_equalIn_agg w (n + 1) 32 _ _ hS hp]
  clear hS
  simp only [Program.fieldsOf, Try.underlying32]
  go_simp
  by_cases h1 : f = f' <;> by_cases h2 : c = c' <;> simp [h1, h2]
theorem run_equalIn_Ms (n : Nat) (a b : Ms) (w : World) :
    (Op.equalIn (n + 3) 34 a.val b.val).run Try.prog w = .ok (decide (a = b)) w := by
  have hS : Try.prog.underlying 34 = some (.struct (Try.prog.fieldsOf 34)) := by kernel_rfl
  have hp : Try.prog.stoodInHeld 34 = false := by kernel_rfl
  have he := run_equalIn_Id n
  rw [Ms_eq]
  obtain ⟨f, c, d⟩ := a
  obtain ⟨f', c', d'⟩ := b
  simp only [Ms.val]
  rw [run_equalIn_agg w (n + 2) 34 _ _ hS hp]
  clear hS
  simp only [Program.fieldsOf, Try.underlying34]
  go_simp
  by_cases h1 : f = f' <;> by_cases h2 : c = c' <;> by_cases h3 : d.toList = d'.toList <;> simp [h1, h2, h3]
theorem run_eql_Ms (a b : Ms) (w : World) : (binOp .eql 34 a.val b.val).run Try.prog w = .ok (.bool (decide (a = b))) w := by
  have := run_equalIn_Ms 9997 a b w
  unfold Ms.val at *
  rw [run_eql_struct, this]; rfl
theorem run_neq_Ms (a b : Ms) (w : World) : (binOp .neq 34 a.val b.val).run Try.prog w = .ok (.bool (!decide (a = b))) w := by
  have := run_equalIn_Ms 9997 a b w
  unfold Ms.val at *
  rw [run_neq_struct, this]; rfl
theorem guard_Ms (op : BinOp) (x y : Operand) (a b : Ms) (w : World) : (eqGuard op 34 x y a.val b.val).run Try.prog w = .ok () w :=
  run_eqGuard_agg w op _ x y _ _ (by kernel_rfl)
/-- The operation itself. -/
theorem op_eql_Ms {ρ : Operand → Value} {d : Option Tmp} {x y : Operand} {u t : TypeId} {s : String} {af : Array Edge} {g : Option (Nat × Bool)} (a b : Ms) (hx : ρ x = a.val) (hy : ρ y = b.val) (w : World) :
    (execOp ρ ⟨d, .binOp .eql 34 x y u, t, s, af, g⟩).run Try.prog w = .ok (.value (.bool (decide (a = b)))) w := by
  simp only [execOp, hx, hy, Sem.run_bind, guard_Ms, run_eql_Ms, Result.andThen_ok]; rfl
theorem op_neq_Ms {ρ : Operand → Value} {d : Option Tmp} {x y : Operand} {u t : TypeId} {s : String} {af : Array Edge} {g : Option (Nat × Bool)} (a b : Ms) (hx : ρ x = a.val) (hy : ρ y = b.val) (w : World) :
    (execOp ρ ⟨d, .binOp .neq 34 x y u, t, s, af, g⟩).run Try.prog w = .ok (.value (.bool (!decide (a = b)))) w := by
  simp only [execOp, hx, hy, Sem.run_bind, guard_Ms, run_neq_Ms, Result.andThen_ok]; rfl
theorem run_load_Ms {a : Value} {b o : Nat} {m : Ms} {w : World} (ha : a = .pointer (some ⟨b, o, none⟩)) (c0 : w.cell? ⟨b, o, none⟩ = some (.int .i64 m.f)) (c1 : w.cell? ⟨b, o + 1, none⟩ = some (.int .u32 m.c)) (c2 : w.cell? ⟨b, o + 2, none⟩ = some (.string m.d)) :
    (Instr.loadAt 34 a).run Try.prog w = .ok m.val w := by
  subst ha
  unfold Ms.val
  simp [go_sem, c0, c1, c2, Try.isAgg34, Try.sizeOf34]
theorem op_load_Ms {ρ : Operand → Value} {d : Option Tmp} {x : Operand} {t : TypeId} {s : String} {af : Array Edge} {g : Option (Nat × Bool)} {b o : Nat} {m : Ms} {w : World} (hx : ρ x = .pointer (some ⟨b, o, none⟩))
    (c0 : w.cell? ⟨b, o, none⟩ = some (.int .i64 m.f)) (c1 : w.cell? ⟨b, o + 1, none⟩ = some (.int .u32 m.c)) (c2 : w.cell? ⟨b, o + 2, none⟩ = some (.string m.d)) :
    (execOp ρ ⟨d, .load 34 x, t, s, af, g⟩).run Try.prog w = .ok (.value m.val) w := by
  simp only [execOp, Sem.run_bind, run_load_Ms hx c0 c1 c2, Result.andThen_ok]; rfl
/-- .. in a world that has grown. -/
theorem op_load_Ms' {W : World} {ρ : Operand → Value} {d : Option Tmp} {x : Operand} {t : TypeId} {s : String} {af : Array Edge} {g : Option (Nat × Bool)} {b o : Nat} {m : Ms} (hlt : b < W.heap.size)
    (c0 : W.cell? ⟨b, o, none⟩ = some (.int .i64 m.f)) (c1 : W.cell? ⟨b, o + 1, none⟩ = some (.int .u32 m.c)) (c2 : W.cell? ⟨b, o + 2, none⟩ = some (.string m.d)) (hx : ρ x = .pointer (some ⟨b, o, none⟩)) :
    ∀ w, Ext W w → (execOp ρ ⟨d, .load 34 x, t, s, af, g⟩).run Try.prog w = .ok (.value m.val) w := fun w h => by
  have hc := h.cells.1
  exact op_load_Ms hx ((hc _ _ hlt).trans c0) ((hc _ _ hlt).trans c1) ((hc _ _ hlt).trans c2)

theorem run_load_Id {a : Value} {b o : Nat} {f c : Int} {w : World} (ha : a = .pointer (some ⟨b, o, none⟩)) (c0 : w.cell? ⟨b, o, none⟩ = some (.int .i64 f)) (c1 : w.cell? ⟨b, o + 1, none⟩ = some (.int .u32 c)) :
    (Instr.loadAt 32 a).run Try.prog w = .ok (.agg #[.int .i64 f, .int .u32 c]) w := by
  subst ha
  simp [go_sem, c0, c1, Try.isAgg32, Try.sizeOf32]
theorem op_load_Id' {W : World} {ρ : Operand → Value} {d : Option Tmp} {x : Operand} {t : TypeId} {s : String} {af : Array Edge} {g : Option (Nat × Bool)} {b o : Nat} {f c : Int} (hlt : b < W.heap.size)
    (c0 : W.cell? ⟨b, o, none⟩ = some (.int .i64 f)) (c1 : W.cell? ⟨b, o + 1, none⟩ = some (.int .u32 c)) (hx : ρ x = .pointer (some ⟨b, o, none⟩)) :
    ∀ w, Ext W w → (execOp ρ ⟨d, .load 32 x, t, s, af, g⟩).run Try.prog w = .ok (.value (.agg #[.int .i64 f, .int .u32 c])) w := fun w h => by
  have hc := h.cells.1
  simp only [execOp, Sem.run_bind, run_load_Id hx ((hc _ _ hlt).trans c0) ((hc _ _ hlt).trans c1), Result.andThen_ok]; rfl

/-! ### loops over messages -/
def countF (l : List Ms) (f : Int) : Nat := (l.filter fun m => m.f == f).length
theorem countF_snoc (l : List Ms) (m : Ms) (f : Int) : countF (l ++ [m]) f = countF l f + (if (m.f == f) = true then 1 else 0) := by
  unfold countF
  rw [List.filter_append]
  by_cases h : m.f = f <;> simp [List.filter_cons, h]
theorem take_snoc' {α : Type} (l : List α) (k : Nat) (h : k < l.length) : l.take (k + 1) = l.take k ++ [l[k]] := by
  rw [List.take_succ_eq_append_getElem h]
theorem countF_le (l : List Ms) (f : Int) : countF l f ≤ l.length := List.length_filter_le _ _

def sameB (a b : List Ms) : Bool := decide (a = b)
set_option maxRecDepth 100000 in
theorem same_ref (va vb : Value) (a b : List Ms) (w : World) (ha : MsL w va a) (hb : MsL w vb b) (hlen : a.length ≤ 1073741824) :
    Calls Try.prog 16 #[va, vb] w fun e w' => e = .returned (.bool (sameB a b)) ∧ Ext w w' := by
  obtain ⟨A, cap, rfl, hc1, hc2⟩ := ha.val
  obtain ⟨B, cap', rfl, hc3, hc4⟩ := hb.val
  have hA := Lib.hid ha
  have hB := Lib.hid hb
  clear ha hb
  unfold maxLen at hc2 hc4
  by_cases hn : a.length = b.length
  · have hn' : ((a.length : Int) != (b.length : Int)) = false := by simp [hn]
    have Hn := Lib.hid hn
    go_enter Try.func16, Try.ntmps16
    go_wp2
    clear hn' hn
    go_loopw [5] (fun i wr => ∃ k : Nat, k ≤ a.length ∧ i = .int .i64 k ∧ a.take k = b.take k ∧ Ext w wr) (fun i _ => a.length - (intOf i).toNat)
    case atStart => exact ⟨0, Nat.zero_le _, rfl, by simp, Ext.refl _⟩
    case round =>
      obtain ⟨k, hk, rfl, heq, hext⟩ := hrel
      have Heq := Lib.hid heq
      clear heq
      by_cases hlt : k < a.length
      · have hlt2 : k < b.length := by have := Hn.out; omega
        obtain ⟨ab, ao, rfl, hbl, c0, c1, c2⟩ := Sl.at3 (hA.out.ext hext) hlt
        obtain ⟨bb, bo, rfl, hbl', d0, d1, d2⟩ := Sl.at3 (hB.out.ext hext) hlt2
        have Hs := Lib.hid (take_snoc' a k hlt)
        have Hs' := Lib.hid (take_snoc' b k hlt2)
        have Hg := Lib.hid (rfl : a[k] = a[k])
        have Hx : ∃ x, a[k] = x := ⟨_, rfl⟩
        have Hy : ∃ y, b[k] = y := ⟨_, rfl⟩
        obtain ⟨x, hx⟩ := Hx
        obtain ⟨y, hy⟩ := Hy
        rw [hx] at c0 c1 c2 Hs
        rw [hy] at d0 d1 d2 Hs'
        have Hx := Lib.hid hx
        have Hy := Lib.hid hy
        clear hx hy Hg
        go_wp2
        refine wp_region_plan [(0,0),(1,0),(2,0),(3,1),(4,0),(5,0),(6,0),(7,1),(8,0)] (by kernel_rfl) (by kernel_rfl) (by kernel_rfl) (Ext wr) (fun _ _ h k => h.trans k) (Ext.drawn _ _) ?_
        iterate 3
          first
            | refine Fx.skip rfl rfl (by simp only [List.set_cons_zero, List.set_cons_succ]; rfl) ?_
            | (with_reducible refine Fx.lab0 ?_
               first
                 | refine Fx.moveT rfl rfl rfl (by simp only [List.set_cons_zero, List.set_cons_succ]; rfl) ?_
                 | refine Fx.assignT rfl rfl rfl (by simp only [List.set_cons_zero, List.set_cons_succ]; rfl) ?_
                 | refine Fx.pure_ rfl rfl (fun _ => by go_simp; first | done | rfl) (by simp only [List.set_cons_zero, List.set_cons_succ]; rfl) ?_)
            | (with_reducible refine Fx.lab1 ?_
               refine Fx.look rfl rfl (fun w' hC => by obtain ⟨hc, hf, hl⟩ := Ext.cells hC; go_simp; rfl) (by simp only [List.set_cons_zero, List.set_cons_succ]; rfl) ?_)
        refine Fx.look rfl rfl (op_load_Ms' hbl c0 c1 c2 rfl) (by simp only [List.set_cons_zero, List.set_cons_succ]; rfl) ?_
        iterate 3
          first
            | refine Fx.skip rfl rfl (by simp only [List.set_cons_zero, List.set_cons_succ]; rfl) ?_
            | (with_reducible refine Fx.lab0 ?_
               first
                 | refine Fx.moveT rfl rfl rfl (by simp only [List.set_cons_zero, List.set_cons_succ]; rfl) ?_
                 | refine Fx.assignT rfl rfl rfl (by simp only [List.set_cons_zero, List.set_cons_succ]; rfl) ?_
                 | refine Fx.pure_ rfl rfl (fun _ => by go_simp; first | done | rfl) (by simp only [List.set_cons_zero, List.set_cons_succ]; rfl) ?_)
            | (with_reducible refine Fx.lab1 ?_
               refine Fx.look rfl rfl (fun w' hC => by obtain ⟨hc, hf, hl⟩ := Ext.cells hC; go_simp; rfl) (by simp only [List.set_cons_zero, List.set_cons_succ]; rfl) ?_)
        refine Fx.look rfl rfl (op_load_Ms' hbl' d0 d1 d2 rfl) (by simp only [List.set_cons_zero, List.set_cons_succ]; rfl) ?_
        refine Fx.pure_ rfl rfl (op_neq_Ms x y rfl rfl) (by simp only [List.set_cons_zero, List.set_cons_succ]; rfl) ?_
        refine Fx.done (fun w1 hC => ?_)
        by_cases hxm : x = y
        · have hd : (!decide (x = y)) = false := by simp [hxm]
          rw [hd]
          go_wp2
          go_roundw
          case rel => exact ⟨k + 1, by omega, by go_num, by rw [Hs.out, Hs'.out, Heq.out, hxm], hext.trans hC⟩
          case measure => simp [intOf]; omega
        · have hd : (!decide (x = y)) = true := by simp [hxm]
          rw [hd]
          go_wp2
          go_ret
          have hne : ¬ a = b := by
            intro e
            have h1 := Hx.out; have h2 := Hy.out
            subst e
            exact hxm (h1.symm.trans h2)
          exact ⟨ret_bool (by simp [sameB, hne]), hext.trans hC⟩
      · go_wp2
        go_ret
        have he : a = b := by
          have h1 := Heq.out
          have h2 := Hn.out
          rw [List.take_of_length_le (by omega), List.take_of_length_le (by omega)] at h1
          exact h1
        exact ⟨ret_bool (by simp [sameB, he]), hext⟩
  · have hn' : ((a.length : Int) != (b.length : Int)) = true := by simp; omega
    have hr : sameB a b = false := by unfold sameB; simp; intro e; exact hn (by rw [e])
    go_enter Try.func16, Try.ntmps16
    go_wp2
    go_ret
    exact ⟨ret_bool (by rw [hr]), Ext.refl _⟩
end Go.Proofs.Ytokljdkeegdniaa
