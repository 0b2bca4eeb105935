/-
  batch.Pool in memory; isNil, New, Is, Add.
-/
import Derived.Test.YtkkcdoajdhbofaaOpsP
import Derived.WalkSpells
import Derived.Deep.Cut
namespace Go.Proofs.Ytkkcdoajdhbofaa
open Go.RowKit
attribute [local go_sem] Oper.semAt_some

def unV : Unit → Value := fun _ => .agg #[]
def poF (mw md : Nat) : Nat → Value := fun i => if i = 0 then .map (some mw) else .map (some md)
structure PoolAt (w : World) (b mw md : Nat) (σ : PSt) : Prop where
  obj : Obj_ w b 2 (poF mw md)
  wt : MapIs w mw idV Ms.val σ.wt
  dn : MapIs w md idV unV σ.dn
  d1 : b ≠ mw
  d2 : b ≠ md
  d3 : mw ≠ md
def FP (b mw md : Nat) (x : Nat) : Prop := x = b ∨ x = mw ∨ x = md
theorem PoolAt.mods {w w' : World} {b mw md : Nat} {σ : PSt} {S : Nat → Prop} (h : PoolAt w b mw md σ) (he : Mods S w w') (hS : ∀ x, FP b mw md x → ¬ S x) : PoolAt w' b mw md σ :=
  ⟨h.obj.mods he (hS _ (.inl rfl)), h.wt.mods he (hS _ (.inr (.inl rfl))), h.dn.mods he (hS _ (.inr (.inr rfl))), h.d1, h.d2, h.d3⟩
theorem PoolAt.ext {w w' : World} {b mw md : Nat} {σ : PSt} (h : PoolAt w b mw md σ) (he : Ext w w') : PoolAt w' b mw md σ := h.mods (he.mods (fun _ => False)) (fun _ _ h => h)
theorem PoolAt.lt {w : World} {b mw md : Nat} {σ : PSt} (h : PoolAt w b mw md σ) {x : Nat} (hx : FP b mw md x) : x < w.heap.size := by
  rcases hx with rfl | rfl | rfl
  · exact h.obj.lt
  · exact h.wt.lt
  · exact h.dn.lt
structure PoolCells (w : World) (b mw md : Nat) : Prop where
  c0 : w.cell? ⟨b, 0, none⟩ = some (.map (some mw))
  c1 : w.cell? ⟨b, 1, none⟩ = some (.map (some md))
  lb : b < w.heap.size
theorem PoolAt.cells {w : World} {b mw md : Nat} {σ : PSt} (h : PoolAt w b mw md σ) : PoolCells w b mw md := ⟨h.obj.cell 0 (by omega), h.obj.cell 1 (by omega), h.obj.lt⟩
theorem PoolAt.putW {w w' : World} {b mw md : Nat} {σ : PSt} (h : PoolAt w b mw md σ) {wt : List ((Int × Int) × Ms)} (hm : MapIs w' mw idV Ms.val wt) (he : Mods (· = mw) w w') : PoolAt w' b mw md { σ with wt := wt } :=
  ⟨h.obj.mods he (fun e => h.d1 e), hm, h.dn.mods he (fun e => h.d3 e.symm), h.d1, h.d2, h.d3⟩
theorem PoolAt.putD {w w' : World} {b mw md : Nat} {σ : PSt} (h : PoolAt w b mw md σ) {dn : List ((Int × Int) × Unit)} (hm : MapIs w' md idV unV dn) (he : Mods (· = md) w w') : PoolAt w' b mw md { σ with dn := dn } :=
  ⟨h.obj.mods he (fun e => h.d2 e), h.wt.mods he (fun e => h.d3 e), hm, h.d1, h.d2, h.d3⟩

/-! ### isNil -/
theorem isNil_nil (w : World) : Calls Try.prog 26 #[.pointer none] w fun e w' => e = .returned (.bool true) ∧ w' = w := by
  go_enter Try.func26, Try.ntmps26
  go_wp2
  go_ret
  exact ⟨rfl, rfl⟩
theorem isNil_at {w : World} {b mw md : Nat} {σ : PSt} (h : PoolAt w b mw md σ) : Calls Try.prog 26 #[.pointer (some ⟨b, 0, none⟩)] w fun e w' => e = .returned (.bool false) ∧ w' = w := by
  obtain ⟨c0, c1, lb⟩ := h.cells
  have hmn : ∀ w, (binOp .eql 56 (.map (some mw)) (.map none)).run Try.prog w = .ok (.bool false) w := fun w => run_eql_map_nil w _ _ _ (some mw) Try.underlying56
  clear h c1
  go_enter Try.func26, Try.ntmps26
  go_wp2
  go_ret
  exact ⟨rfl, rfl⟩

/-! ### New -/
def NewR (w : World) (e : Ending) (w' : World) : Prop :=
  ∃ b mw md, e = .returned (.pointer (some ⟨b, 0, none⟩)) ∧ PoolAt w' b mw md p0 ∧ Ext w w' ∧ ∀ x, FP b mw md x → w.heap.size ≤ x
theorem new_at (w : World) : Calls Try.prog 11 #[] w (NewR w) := by
  have hmm := @run_makeMap Try.prog
  have h1 : MapIs (w.alloc (.map #[] 0)) w.heap.size idV Ms.val [] := MapIs.made w
  have h2 : MapIs ((w.alloc (.map #[] 0)).alloc (.map #[] 0)) (w.alloc (.map #[] 0)).heap.size idV unV [] := MapIs.made _
  have E1 := Ext.alloc w (.map #[] 0)
  have E2 := Ext.alloc (w.alloc (.map #[] 0)) (.map #[] 0)
  have s1 : (w.alloc (.map #[] 0)).heap.size = w.heap.size + 1 := by simp
  have s2 : ((w.alloc (.map #[] 0)).alloc (.map #[] 0)).heap.size = w.heap.size + 2 := by simp
  rw [s1] at h2
  have o3 := Obj_.new ((w.alloc (.map #[] 0)).alloc (.map #[] 0)) 59 #[.map (some w.heap.size), .map (some (w.heap.size + 1))] (poF w.heap.size (w.heap.size + 1)) (fun i hi => by
    simp at hi
    match i, hi with
    | 0, _ => rfl
    | 1, _ => rfl)
  have E3 := Ext.alloc ((w.alloc (.map #[] 0)).alloc (.map #[] 0)) (.cells #[.map (some w.heap.size), .map (some (w.heap.size + 1))] 59)
  rw [s2] at o3
  have H1 := Lib.hid ((h1.ext E2).ext E3)
  have H2 := Lib.hid (h2.ext E3)
  have H3 := Lib.hid o3
  have HE := Lib.hid ((E1.trans E2).trans E3)
  clear h1 h2 E1 E2 E3 o3 s1 s2
  go_enter Try.func11, Try.ntmps11
  go_wp2
  go_ret
  exact ⟨w.heap.size + 2, w.heap.size, w.heap.size + 1, rfl, ⟨H3.out, H1.out, H2.out, by omega, by omega, by omega⟩, HE.out, fun x hx => by unfold FP at hx; omega⟩

/-! ### Is -/
theorem is_nil (w : World) (f c : Int) : Calls Try.prog 21 #[.pointer none, .agg #[.int .i64 f, .int .u32 c]] w fun e w' => e = .returned (.bool false) ∧ Ext w w' := by
  have hE := Lib.hid (Ext.alloc w (.cells #[.int .i64 f, .int .u32 c] 25))
  go_enter Try.func21, Try.ntmps21
  go_wp2_with (go_at_call 26; refine (isNil_nil _).mono ?_; rintro e w' ⟨rfl, rfl⟩)
  go_ret
  exact ⟨rfl, hE.out⟩
theorem lookU (o : Option Unit) (z : Value) (hz : z = .agg #[]) : (o.map unV).getD z = .agg #[] := by subst hz; cases o <;> rfl
theorem stepAt_store_unit {a : Act} {d : Option Tmp} {t : TypeId} {s : String} {af : Array Edge} {g : Option (Nat × Bool)} {W w : World} {q x : Operand} {p : Addr} (hC : Ext W w) (hq : a.eval q = .pointer (some p)) (hx : a.eval x = .agg #[]) :
    stepAt Try.prog ⟨d, .store 69 q x, t, s, af, g⟩ a w (fun _ w' => Ext W w') := by
  have hr : (Instr.storeAt 69 (a.eval q) (a.eval x)).run Try.prog w = .ok () w := by
    rw [hq, hx]
    simp [Instr.storeAt, Instr.sureAddr, storeVar, Try.sizeOf69, Value.cells, storeCells, Sem.run]
  unfold stepAt
  simp only [execOp, Sem.run_bind, hr, Result.andThen_ok]
  exact hC
set_option maxRecDepth 100000 in
set_option maxHeartbeats 1600000 in
theorem is_at {w : World} {b mw md : Nat} {σ : PSt} (h : PoolAt w b mw md σ) (f c : Int) : Calls Try.prog 21 #[.pointer (some ⟨b, 0, none⟩), .agg #[.int .i64 f, .int .u32 c]] w fun e w' => e = .returned (.bool (isB σ (f, c))) ∧ Ext w w' := by
  have hE0 := Ext.alloc w (.cells #[.int .i64 f, .int .u32 c] 25)
  have hbx := box_Id w f c
  have e0 := hbx.cell 0 (by decide)
  have e1 := hbx.cell 1 (by decide)
  have el := hbx.lt
  simp only [idF, List.getD_cons_zero, List.getD_cons_succ] at e0 e1
  have H := Lib.hid (h.ext hE0)
  have HE := Lib.hid hE0
  obtain ⟨r, hr⟩ : ∃ r, isB σ (f, c) = r := ⟨_, rfl⟩
  have Hr := Lib.hid hr
  rw [hr]
  clear h hE0 hbx hr
  go_enter Try.func21, Try.ntmps21
  generalize hW : w.alloc (.cells #[.int .i64 f, .int .u32 c] 25) = W at *
  go_upto_region 3 with (go_at_call 26; refine (isNil_at H.out).mono ?_; rintro e w' ⟨rfl, rfl⟩)
  obtain ⟨c0, c1, lb⟩ := H.out.cells
  refine wp_region_plan [(0,0),(1,0),(2,0),(3,1),(4,1),(5,1),(6,0),(7,0),(8,0),(9,2),(10,3),(11,0)] (by kernel_rfl) (by kernel_rfl) (by kernel_rfl) (Ext w') (fun _ _ h k => h.trans k) (Ext.drawn _ _) ?_
  iterate 4
    first
      | refine Fx.skip rfl rfl (by simp only [List.set_cons_zero, List.set_cons_succ]; rfl) ?_
      | (with_reducible refine Fx.lab0 ?_
         first
           | refine Fx.moveT rfl rfl rfl (by simp only [List.set_cons_zero, List.set_cons_succ]; rfl) ?_
           | refine Fx.assignT rfl rfl rfl (by simp only [List.set_cons_zero, List.set_cons_succ]; rfl) ?_
           | refine Fx.pure_ rfl rfl (fun _ => by go_simp; first | done | rfl) (by simp only [List.set_cons_zero, List.set_cons_succ]; rfl) ?_)
      | (with_reducible refine Fx.lab1 ?_
         refine Fx.look rfl rfl (fun w' hC => by obtain ⟨hc, hf, hl⟩ := Ext.cells hC; go_simp; rfl) (by simp only [List.set_cons_zero, List.set_cons_succ]; rfl) ?_)
  refine Fx.look rfl rfl (op_load_Id' el e0 e1 rfl) (by simp only [List.set_cons_zero, List.set_cons_succ]; rfl) ?_
  refine Fx.look (v := .tuple #[.agg #[], .bool r]) rfl rfl (fun w' hC => by rw [op_look (k := (f, c)) (H.out.dn.ext hC) keysId Try.underlying57 (Try.zeroValue69 w') rfl rfl, lookU _ _ rfl, ← Hr.out]; rfl) (by simp only [List.set_cons_zero, List.set_cons_succ]; rfl) ?_
  iterate 3
    first
      | refine Fx.skip rfl rfl (by simp only [List.set_cons_zero, List.set_cons_succ]; rfl) ?_
      | (with_reducible refine Fx.lab0 ?_
         first
           | refine Fx.moveT rfl rfl rfl (by simp only [List.set_cons_zero, List.set_cons_succ]; rfl) ?_
           | refine Fx.assignT rfl rfl rfl (by simp only [List.set_cons_zero, List.set_cons_succ]; rfl) ?_
           | refine Fx.pure_ rfl rfl (fun _ => by go_simp; first | done | rfl) (by simp only [List.set_cons_zero, List.set_cons_succ]; rfl) ?_)
      | (with_reducible refine Fx.lab1 ?_
         refine Fx.look rfl rfl (fun w' hC => by obtain ⟨hc, hf, hl⟩ := Ext.cells hC; go_simp; rfl) (by simp only [List.set_cons_zero, List.set_cons_succ]; rfl) ?_)
  refine Fx.mkPtr (fun B w' => True) (fun B _ _ _ _ => trivial) rfl rfl (fun w' hC => ?_) (fun B => ?_)
  · unfold stepAt
    rw [show (execOp _ _).run Try.prog w' = .ok (.value (.pointer (some ⟨w'.heap.size, 0, none⟩))) (w'.alloc (.cells #[] 69)) from by simp [execOp, go_sem, Try.zeroValue69]]
    exact ⟨_, rfl, Ext.alloc _ _, trivial⟩
  simp only [List.set_cons_zero, List.set_cons_succ]
  refine Fx.eff0 (fun w'' => Ext w' w'') (fun _ _ h k => h.trans k) rfl rfl (fun w'' hC => stepAt_store_unit hC.1 rfl rfl) ?_
  first
    | refine Fx.skip rfl rfl (by simp only [List.set_cons_zero, List.set_cons_succ]; rfl) ?_
    | (with_reducible refine Fx.lab0 ?_
       first
         | refine Fx.moveT rfl rfl rfl (by simp only [List.set_cons_zero, List.set_cons_succ]; rfl) ?_
         | refine Fx.assignT rfl rfl rfl (by simp only [List.set_cons_zero, List.set_cons_succ]; rfl) ?_
         | refine Fx.pure_ rfl rfl (fun _ => by go_simp; first | done | rfl) (by simp only [List.set_cons_zero, List.set_cons_succ]; rfl) ?_)
    | (with_reducible refine Fx.lab1 ?_
       refine Fx.look rfl rfl (fun w' hC => by obtain ⟨hc, hf, hl⟩ := Ext.cells hC; go_simp; rfl) (by simp only [List.set_cons_zero, List.set_cons_succ]; rfl) ?_)
  refine Fx.done (fun w2 hC => ?_)
  have HC := Lib.hid (HE.out.trans hC)
  clear hC c0 c1 lb
  go_wp2
  go_ret
  exact ⟨rfl, HC.out⟩
end Go.Proofs.Ytkkcdoajdhbofaa
