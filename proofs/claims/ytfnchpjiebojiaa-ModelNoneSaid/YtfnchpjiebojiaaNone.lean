/-
  rostrumlaw16.ModelNone: the walk.
-/
import Derived.Test.YtfnchpjiebojiaaShown
namespace Go.Proofs.Ytfnchpjiebojiaa
open Go.RowKit
set_option maxRecDepth 100000 in
set_option maxHeartbeats 1600000 in
theorem none_at (h : Hp) (w : World) : Calls Try.prog 7 #[h.val] w fun e w' => e = .returned (.bool true) ∧ Ext w w' := by
  have bx := box_Hp w h
  have b0 := bx.cell 0 (by decide)
  have b1 := bx.cell 1 (by decide)
  have b2 := bx.cell 2 (by decide)
  have b3 := bx.cell 3 (by decide)
  have b4 := bx.cell 4 (by decide)
  have bl := bx.lt
  simp only [Hp.enc, List.getD_cons_zero, List.getD_cons_succ] at b0 b1 b2 b3 b4
  have hE := Lib.hid (Ext.alloc w (.cells #[.int .i64 h.k, .int .i64 h.n, .int .i64 h.m.f, .int .u32 h.m.c, .string h.m.d] 36))
  have hval : h.val = .agg #[.int .i64 h.k, .int .i64 h.n, .int .i64 h.m.f, .int .u32 h.m.c, .string h.m.d] := rfl
  rw [hval]
  clear bx hval
  go_enter Try.func7, Try.ntmps7
  go_upto_region 1 with fail
  generalize hW : w.alloc (.cells #[.int .i64 h.k, .int .i64 h.n, .int .i64 h.m.f, .int .u32 h.m.c, .string h.m.d] 36) = W at *
  go_upto_region 3 with (go_at_call 9; refine (shown_at _).mono ?_; rintro e w1 ⟨rfl, hE1⟩; have H1 := Lib.hid hE1; clear hE1)
  obtain ⟨xc, xf, xl⟩ := H1.out.cells
  replace b0 := (xc _ _ bl).trans b0
  replace b1 := (xc _ _ bl).trans b1
  replace b2 := (xc _ _ bl).trans b2
  replace b3 := (xc _ _ bl).trans b3
  replace b4 := (xc _ _ bl).trans b4
  replace bl := xl _ bl
  clear xc xf xl
  refine wp_region_line [(0,0),(1,0),(2,0),(3,1),(4,1),(5,0),(6,0),(7,0),(8,0),(9,1),(10,0),(11,0),(12,0),(13,0),(14,0),(15,0),(16,1),(17,1),(18,0),(19,0),(20,0)] (by kernel_rfl) (by kernel_rfl) (Ext w1) (fun _ _ h k => h.trans k) (Ext.refl _) ?_
  iterate 3
    first
      | refine Fx.skip rfl rfl (by simp only [List.set_cons_zero, List.set_cons_succ]; rfl) ?_
      | (with_reducible refine Fx.lab0 ?_
         first
           | refine Fx.moveT rfl rfl rfl (by simp only [List.set_cons_zero, List.set_cons_succ]; rfl) ?_
           | refine Fx.assignT rfl rfl rfl (by simp only [List.set_cons_zero, List.set_cons_succ]; rfl) ?_
           | refine Fx.pure_ rfl rfl (fun _ => by go_simp; first | done | rfl) (by simp only [List.set_cons_zero, List.set_cons_succ]; rfl) ?_)
      | (with_reducible refine Fx.lab1 ?_
         refine Fx.look rfl rfl (fun w' hC => by obtain ⟨hc, hf, hl⟩ := Ext.cells hC; go_simp; rfl) (by simp only [List.set_cons_zero, List.set_cons_succ]; rfl) ?_)
  refine Fx.look rfl rfl (op_load_Hp' (h := h) bl b0 b1 b2 b3 b4 rfl) (by simp only [List.set_cons_zero, List.set_cons_succ]; rfl) ?_
  refine Fx.call1 (v := .int .i64 1) (args := #[.pointer none, h.val]) rfl rfl (fun _ => by first | (go_simp; done) | (go_simp; rfl)) (fun w' hC => happen_nil w' h) (by simp only [List.set_cons_zero, List.set_cons_succ]; rfl) ?_
  iterate 4
    first
      | refine Fx.skip rfl rfl (by simp only [List.set_cons_zero, List.set_cons_succ]; rfl) ?_
      | (with_reducible refine Fx.lab0 ?_
         first
           | refine Fx.moveT rfl rfl rfl (by simp only [List.set_cons_zero, List.set_cons_succ]; rfl) ?_
           | refine Fx.assignT rfl rfl rfl (by simp only [List.set_cons_zero, List.set_cons_succ]; rfl) ?_
           | refine Fx.pure_ rfl rfl (fun _ => by go_simp; first | done | rfl) (by simp only [List.set_cons_zero, List.set_cons_succ]; rfl) ?_)
      | (with_reducible refine Fx.lab1 ?_
         refine Fx.look rfl rfl (fun w' hC => by obtain ⟨hc, hf, hl⟩ := Ext.cells hC; go_simp; rfl) (by simp only [List.set_cons_zero, List.set_cons_succ]; rfl) ?_)
  refine Fx.call1 (v := .slice none 0 0) (args := #[.pointer none]) rfl rfl (fun _ => by first | (go_simp; done) | (go_simp; rfl)) (fun w' hC => (log_nil w').mono (fun e w'' hh => ⟨hh.1, hh.2 ▸ Ext.refl _⟩)) (by simp only [List.set_cons_zero, List.set_cons_succ]; rfl) ?_
  iterate 7
    first
      | refine Fx.skip rfl rfl (by simp only [List.set_cons_zero, List.set_cons_succ]; rfl) ?_
      | (with_reducible refine Fx.lab0 ?_
         first
           | refine Fx.moveT rfl rfl rfl (by simp only [List.set_cons_zero, List.set_cons_succ]; rfl) ?_
           | refine Fx.assignT rfl rfl rfl (by simp only [List.set_cons_zero, List.set_cons_succ]; rfl) ?_
           | refine Fx.pure_ rfl rfl (fun _ => by go_simp; first | done | rfl) (by simp only [List.set_cons_zero, List.set_cons_succ]; rfl) ?_)
      | (with_reducible refine Fx.lab1 ?_
         refine Fx.look rfl rfl (fun w' hC => by obtain ⟨hc, hf, hl⟩ := Ext.cells hC; go_simp; rfl) (by simp only [List.set_cons_zero, List.set_cons_succ]; rfl) ?_)
  refine Fx.call1 (v := .int .i64 (-1)) (args := #[.pointer none, .int .i64 h.n]) rfl rfl (fun _ => by first | (go_simp; done) | (go_simp; rfl)) (fun w' hC => (behind_nil w' h.n).mono (fun e w'' hh => ⟨hh.1, hh.2 ▸ Ext.refl _⟩)) (by simp only [List.set_cons_zero, List.set_cons_succ]; rfl) ?_
  iterate 3
    first
      | refine Fx.skip rfl rfl (by simp only [List.set_cons_zero, List.set_cons_succ]; rfl) ?_
      | (with_reducible refine Fx.lab0 ?_
         first
           | refine Fx.moveT rfl rfl rfl (by simp only [List.set_cons_zero, List.set_cons_succ]; rfl) ?_
           | refine Fx.assignT rfl rfl rfl (by simp only [List.set_cons_zero, List.set_cons_succ]; rfl) ?_
           | refine Fx.pure_ rfl rfl (fun _ => by go_simp; first | done | rfl) (by simp only [List.set_cons_zero, List.set_cons_succ]; rfl) ?_)
      | (with_reducible refine Fx.lab1 ?_
         refine Fx.look rfl rfl (fun w' hC => by obtain ⟨hc, hf, hl⟩ := Ext.cells hC; go_simp; rfl) (by simp only [List.set_cons_zero, List.set_cons_succ]; rfl) ?_)
  refine Fx.done (fun w2 hC => ?_)
  have H2 := Lib.hid hC
  clear hC
  go_wp2
  go_ret
  exact ⟨rfl, (hE.out.trans H1.out).trans H2.out⟩
end Go.Proofs.Ytfnchpjiebojiaa
