/-
  rostrumlaw16.shown: a closed run.
-/
import Derived.Test.YtfnchpjiebojiaaCheck
namespace Go.Proofs.Ytfnchpjiebojiaa
open Go.RowKit

theorem hap_at (k n f c : Int) (w : World) : Calls Try.prog 20 #[.int .i64 k, .int .i64 n, .int .i64 f, .int .u32 c] w fun e w' => e = .returned (Hp.val ⟨k, n, ⟨f, c, ⟨#[]⟩⟩⟩) ∧ Ext w w' := by
  have hE := Ext.alloc w (.cells #[.int .i64 k, .int .i64 n, .int .i64 f, .int .u32 c, .string ⟨#[]⟩] 36)
  have HE := Lib.hid hE
  clear hE
  go_enter Try.func20, Try.ntmps20
  go_wp2
  refine bodyPost_ret (results_cell_row rfl _ _ w.heap.size _ _ _ _ rfl (heap_alloc_new w _) Try.underlying36 rfl (by kernel_rfl)) rfl ⟨rfl, HE.out⟩

theorem run_lit4 (a b c d : Hp) (w : World) : (Instr.buildSlice 22 4 #[(0, a.val), (1, b.val), (2, c.val), (3, d.val)]).run Try.prog w = .ok (.slice (some ⟨w.heap.size, 0, none⟩) 4 4) (w.alloc (.cells (a.enc ++ b.enc ++ c.enc ++ d.enc).toArray 36)) := by
  unfold Hp.val Hp.enc
  simp [go_sem, Try.zeroValue36, Try.sizeOf36, Instr.buildSlice, run_underlying Try.underlying22]
theorem run_lit2 (a b : Hp) (w : World) : (Instr.buildSlice 22 2 #[(0, a.val), (1, b.val)]).run Try.prog w = .ok (.slice (some ⟨w.heap.size, 0, none⟩) 2 2) (w.alloc (.cells (a.enc ++ b.enc).toArray 36)) := by
  unfold Hp.val Hp.enc
  simp [go_sem, Try.zeroValue36, Try.sizeOf36, Instr.buildSlice, run_underlying Try.underlying22]
section
variable {a : Act} {d : Option Tmp} {t : TypeId} {s : String} {af : Array Edge} {g : Option (Nat × Bool)} {W w : World}
theorem stepAt_lit4 {x0 x1 x2 x3 : Operand} (hC : Ext W w) (h0 h1 h2 h3 : Hp) (e0 : a.eval x0 = h0.val) (e1 : a.eval x1 = h1.val) (e2 : a.eval x2 = h2.val) (e3 : a.eval x3 = h3.val) :
    stepAt Try.prog ⟨d, .buildSlice 22 4 #[(0, x0), (1, x1), (2, x2), (3, x3)], t, s, af, g⟩ a w (fun u w' => ∃ b, u = .slice (some ⟨b, 0, none⟩) 4 4 ∧ Ext w w' ∧ HpL w' (.slice (some ⟨b, 0, none⟩) 4 4) [h0, h1, h2, h3]) := by
  unfold stepAt
  simp only [execOp, Sem.run_bind, List.map_toArray, List.map_cons, List.map_nil, e0, e1, e2, e3, run_lit4, Result.andThen_ok]
  exact ⟨_, rfl, Ext.alloc _ _, (Own.lit (enc := Hp.enc) Hp.len w [h0, h1, h2, h3] (by unfold maxLen; simp) (by simp) (by simp)).sl Hp.len⟩
theorem stepAt_lit2 {x0 x1 : Operand} (hC : Ext W w) (h0 h1 : Hp) (e0 : a.eval x0 = h0.val) (e1 : a.eval x1 = h1.val) :
    stepAt Try.prog ⟨d, .buildSlice 22 2 #[(0, x0), (1, x1)], t, s, af, g⟩ a w (fun u w' => ∃ b, u = .slice (some ⟨b, 0, none⟩) 2 2 ∧ Ext w w' ∧ HpL w' (.slice (some ⟨b, 0, none⟩) 2 2) [h0, h1]) := by
  unfold stepAt
  simp only [execOp, Sem.run_bind, List.map_toArray, List.map_cons, List.map_nil, e0, e1, run_lit2, Result.andThen_ok]
  exact ⟨_, rfl, Ext.alloc _ _, (Own.lit (enc := Hp.enc) Hp.len w [h0, h1] (by unfold maxLen; simp) (by simp) (by simp)).sl Hp.len⟩
end

def hpX (k n f c : Int) : Hp := ⟨k, n, ⟨f, c, ⟨#[]⟩⟩⟩
theorem okX : okN (st0 2) [hpX 1 0 0 1, hpX 3 1 0 1, hpX 3 0 0 1, hpX 3 0 0 1] = 3 := by decide
theorem okY : okN (st0 2) [hpX 1 0 0 1, hpX 2 1 7 7] = 2 := by decide

set_option maxRecDepth 100000 in
set_option maxHeartbeats 1600000 in
theorem shown_at (w : World) : Calls Try.prog 9 #[] w fun e w' => e = .returned (.bool true) ∧ Ext w w' := by
  go_enter Try.func9, Try.ntmps9
  go_upto_region 1 with fail
  refine wp_region_line [(0,1),(1,1),(2,1),(3,1),(4,2),(5,1),(6,0),(7,0),(8,0),(9,0),(10,0)] (by kernel_rfl) (by kernel_rfl) (Ext w) (fun _ _ h k => h.trans k) (Ext.refl _) ?_
  refine Fx.call1 (v := Hp.val (hpX 1 0 0 1)) (args := #[.int .i64 1, .int .i64 0, .int .i64 0, .int .u32 1]) rfl rfl (fun _ => by first | (go_simp; done) | (go_simp; rfl)) (fun w' hC => hap_at _ _ _ _ _) (by simp only [List.set_cons_zero, List.set_cons_succ]; rfl) ?_
  refine Fx.call1 (v := Hp.val (hpX 3 1 0 1)) (args := #[.int .i64 3, .int .i64 1, .int .i64 0, .int .u32 1]) rfl rfl (fun _ => by first | (go_simp; done) | (go_simp; rfl)) (fun w' hC => hap_at _ _ _ _ _) (by simp only [List.set_cons_zero, List.set_cons_succ]; rfl) ?_
  refine Fx.call1 (v := Hp.val (hpX 3 0 0 1)) (args := #[.int .i64 3, .int .i64 0, .int .i64 0, .int .u32 1]) rfl rfl (fun _ => by first | (go_simp; done) | (go_simp; rfl)) (fun w' hC => hap_at _ _ _ _ _) (by simp only [List.set_cons_zero, List.set_cons_succ]; rfl) ?_
  refine Fx.call1 (v := Hp.val (hpX 3 0 0 1)) (args := #[.int .i64 3, .int .i64 0, .int .i64 0, .int .u32 1]) rfl rfl (fun _ => by first | (go_simp; done) | (go_simp; rfl)) (fun w' hC => hap_at _ _ _ _ _) (by simp only [List.set_cons_zero, List.set_cons_succ]; rfl) ?_
  refine Fx.mkSl 4 4 (fun B w' => HpL w' (.slice (some ⟨B, 0, none⟩) 4 4) [hpX 1 0 0 1, hpX 3 1 0 1, hpX 3 0 0 1, hpX 3 0 0 1]) (fun B _ _ h k => h.ext k) rfl rfl (fun w' hC => stepAt_lit4 hC _ _ _ _ rfl rfl rfl rfl) (fun B => ?_)
  simp only [List.set_cons_zero, List.set_cons_succ]
  refine Fx.call1 (v := .tuple #[.int .i64 3, .int .i64 160]) (args := #[.int .i64 2, .slice (some ⟨B, 0, none⟩) 4 4]) rfl rfl (fun _ => by first | (go_simp; done) | (go_simp; rfl)) (fun w' hC => (check_at w' 2 (by decide) (by decide) _ _ hC.2 (by simp)).mono (fun e w'' hh => by
    obtain ⟨h1, h2⟩ := hh; rw [okX] at h1; exact ⟨h1, h2⟩)) (by simp only [List.set_cons_zero, List.set_cons_succ]; rfl) ?_
  iterate 5
    first
      | refine Fx.skip rfl rfl (by simp only [List.set_cons_zero, List.set_cons_succ]; rfl) ?_
      | (with_reducible refine Fx.lab0 ?_
         first
           | refine Fx.moveT rfl rfl rfl (by simp only [List.set_cons_zero, List.set_cons_succ]; rfl) ?_
           | refine Fx.assignT rfl rfl rfl (by simp only [List.set_cons_zero, List.set_cons_succ]; rfl) ?_
           | refine Fx.pure_ rfl rfl (fun _ => by go_simp; first | done | rfl) (by simp only [List.set_cons_zero, List.set_cons_succ]; rfl) ?_)
      | (with_reducible refine Fx.lab1 ?_
         refine Fx.look rfl rfl (fun w' hC => by obtain ⟨hc, hf, hl⟩ := Ext.cells hC; go_simp; rfl) (by simp only [List.set_cons_zero, List.set_cons_succ]; rfl) ?_)
  refine Fx.done (fun w1 hC => ?_)
  have H1 := Lib.hid hC.1
  clear hC
  go_upto_region 2 with fail
  refine wp_region_line [(0,1),(1,1),(2,2),(3,1),(4,0),(5,0),(6,0),(7,0),(8,0)] (by kernel_rfl) (by kernel_rfl) (Ext w1) (fun _ _ h k => h.trans k) (Ext.refl _) ?_
  refine Fx.call1 (v := Hp.val (hpX 1 0 0 1)) (args := #[.int .i64 1, .int .i64 0, .int .i64 0, .int .u32 1]) rfl rfl (fun _ => by first | (go_simp; done) | (go_simp; rfl)) (fun w' hC => hap_at _ _ _ _ _) (by simp only [List.set_cons_zero, List.set_cons_succ]; rfl) ?_
  refine Fx.call1 (v := Hp.val (hpX 2 1 7 7)) (args := #[.int .i64 2, .int .i64 1, .int .i64 7, .int .u32 7]) rfl rfl (fun _ => by first | (go_simp; done) | (go_simp; rfl)) (fun w' hC => hap_at _ _ _ _ _) (by simp only [List.set_cons_zero, List.set_cons_succ]; rfl) ?_
  refine Fx.mkSl 2 2 (fun B w' => HpL w' (.slice (some ⟨B, 0, none⟩) 2 2) [hpX 1 0 0 1, hpX 2 1 7 7]) (fun B _ _ h k => h.ext k) rfl rfl (fun w' hC => stepAt_lit2 hC _ _ rfl rfl) (fun B2 => ?_)
  simp only [List.set_cons_zero, List.set_cons_succ]
  refine Fx.call1 (v := .tuple #[.int .i64 2, .int .i64 0]) (args := #[.int .i64 2, .slice (some ⟨B2, 0, none⟩) 2 2]) rfl rfl (fun _ => by first | (go_simp; done) | (go_simp; rfl)) (fun w' hC => (check_at w' 2 (by decide) (by decide) _ _ hC.2 (by simp)).mono (fun e w'' hh => by
    obtain ⟨h1, h2⟩ := hh; rw [okY] at h1; exact ⟨h1, h2⟩)) (by simp only [List.set_cons_zero, List.set_cons_succ]; rfl) ?_
  iterate 5
    first
      | refine Fx.skip rfl rfl (by simp only [List.set_cons_zero, List.set_cons_succ]; rfl) ?_
      | (with_reducible refine Fx.lab0 ?_
         first
           | refine Fx.moveT rfl rfl rfl (by simp only [List.set_cons_zero, List.set_cons_succ]; rfl) ?_
           | refine Fx.assignT rfl rfl rfl (by simp only [List.set_cons_zero, List.set_cons_succ]; rfl) ?_
           | refine Fx.pure_ rfl rfl (fun _ => by go_simp; first | done | rfl) (by simp only [List.set_cons_zero, List.set_cons_succ]; rfl) ?_)
      | (with_reducible refine Fx.lab1 ?_
         refine Fx.look rfl rfl (fun w' hC => by obtain ⟨hc, hf, hl⟩ := Ext.cells hC; go_simp; rfl) (by simp only [List.set_cons_zero, List.set_cons_succ]; rfl) ?_)
  refine Fx.done (fun w2 hC => ?_)
  have H2 := Lib.hid (H1.out.trans hC.1)
  clear hC
  go_wp2_with (go_at_call 11; refine (check_no _ 0 (by decide) none 0 0).mono ?_; rintro e w3 ⟨rfl, hE3⟩; have H3 := Lib.hid hE3; clear hE3)
  go_ret
  exact ⟨rfl, H2.out.trans H3.out⟩
end Go.Proofs.Ytfnchpjiebojiaa
