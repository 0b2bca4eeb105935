/-
  rostrumlaw11: msg.
-/
import Derived.Test.YtokljdkeegdniaaTake
namespace Go.Proofs.Ytokljdkeegdniaa
open Go.RowKit
attribute [local go_sem] Oper.semAt_some

def mMsg (f c : Int) : Ms := ⟨f, c, ⟨#[109]⟩⟩
theorem results_cell1 {fn : Func} {p : Tmp} {ty : TypeId} (h : fn.results = #[.cell p ty]) (tmps : Array Value) (P : Program) (w : World) :
    (results fn tmps).run P w = ((asAddr (tmps.getD p undef)).run P w).andThen fun a w₁ => (loadVar ty a).run P w₁ := by
  simp only [results, h]
  simp [Sem.run_bind, Result.andThen]
set_option maxRecDepth 100000 in
theorem msg_at (f c : Int) (w : World) : Calls Try.prog 20 #[.int .i64 f, .int .u32 c] w fun e w' => e = .returned (mMsg f c).val ∧ Ext w w' := by
  have o1 := box_Ms w ms0
  have E1 := Ext.alloc w (.cells #[.int .i64 ms0.f, .int .u32 ms0.c, .string ms0.d] 34)
  have hst := fun (W : World) (B : Nat) (f : Nat → Value) (h : Obj_ W B 3 f) (m : Ms) => run_store_Ms (w := W) h m (q := .pointer (some ⟨B, 0, none⟩)) (x := m.val) rfl rfl
  go_enter Try.func20, Try.ntmps20
  go_upto_region 0 with fail
  refine wp_region_line [(0,2)] (by kernel_rfl) (by kernel_rfl) (Ext w) (fun _ _ h k => h.trans k) (Ext.refl _) ?_
  refine Fx.mkPtr (fun B w' => w.heap.size ≤ B ∧ Obj_ w' B 3 (msF ms0)) (fun B _ _ h k => ⟨h.1, h.2.ext k⟩) rfl rfl (fun w' hC => stepAt_alloc_Ms hC) (fun B => ?_)
  simp only [List.set_cons_zero, List.set_cons_succ]
  refine Fx.done (fun w1 hC => ?_)
  obtain ⟨hE1, hB, hO⟩ := hC
  go_upto_region 1 with fail
  refine wp_region_line [(0,0),(1,0),(2,0),(3,0),(4,3)] (by kernel_rfl) (by kernel_rfl) (Ext w1) (fun _ _ h k => h.trans k) (Ext.refl _) ?_
  iterate 3
    first
      | refine Fx.skip rfl rfl (by simp only [List.set_cons_zero, List.set_cons_succ]; rfl) ?_
      | (with_reducible refine Fx.lab0 ?_
         first
           | refine Fx.moveT rfl rfl rfl (by simp only [List.set_cons_zero, List.set_cons_succ]; rfl) ?_
           | refine Fx.assignT rfl rfl rfl (by simp only [List.set_cons_zero, List.set_cons_succ]; rfl) ?_
           | refine Fx.pure_ rfl rfl (fun _ => by go_simp; first | done | rfl) (by simp only [List.set_cons_zero, List.set_cons_succ]; rfl) ?_)
      | (with_reducible refine Fx.lab1 ?_
         refine Fx.look rfl rfl (fun w' hC => by obtain ⟨hc, hf, hl⟩ := Ext.cells hC; go_simp; rfl) (by simp only [List.set_cons_zero, List.set_cons_succ]; rfl) ?_)
  refine Fx.pure_ (v := (mMsg f c).val) rfl rfl (fun _ => by unfold Ms.val mMsg; first | (go_simp; done) | (go_simp; rfl)) (by simp only [List.set_cons_zero, List.set_cons_succ]; rfl) ?_
  refine Fx.eff0 (fun w' => Ext w w' ∧ Obj_ w' B 3 (msF (mMsg f c))) (fun _ _ h k => ⟨h.1.trans k, h.2.ext k⟩) rfl rfl (fun w' hC => stepAt_store_Ms (hE1.trans hC) hB (hO.ext hC) (mMsg f c) rfl rfl) ?_
  refine Fx.done (fun w2 hC => ?_)
  obtain ⟨hE2, hO2⟩ := hC
  obtain ⟨d0, d1, d2⟩ := hO2.ms
  have HE2 := Lib.hid hE2
  have hl := run_load_Ms (a := .pointer (some ⟨B, 0, none⟩)) (m := mMsg f c) rfl d0 d1 d2
  clear hE1 hB hO hE2 hO2 o1 E1 hst
  go_wp2
  refine bodyPost_ret (v := (mMsg f c).val) ?_ rfl ⟨rfl, HE2.out⟩
  rw [results_cell1 (p := 4) (ty := 34) rfl]
  have e : (asAddr ((Act.mk #[Value.int .i64 f, .int .u32 c, undef, undef, .pointer (some ⟨B, 0, none⟩), .int .i64 f, .int .u32 c, .agg #[.int .i64 f, .int .u32 c], (mMsg f c).val] []).tmps.getD 4 undef)).run Try.prog w2 = .ok ⟨B, 0, none⟩ w2 := by simp [asAddr, Sem.run]
  rw [e, Result.andThen_ok]
  unfold Ms.val
  simp [go_sem, loadVar, d0, d1, d2, Try.isAgg34, Try.sizeOf34]
def keyM (m : Ms) : Int × Int := (m.f, m.c)
end Go.Proofs.Ytokljdkeegdniaa
