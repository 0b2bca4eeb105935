/-
  batch.pending's comparing function.
-/
import Derived.Test.YtkkcdoajdhbofaaCmpM
import Derived.Test.YtkkcdoajdhbofaaOpsP
namespace Go.Proofs.Ytkkcdoajdhbofaa
open Go.RowKit Go.Sort

theorem rise_of {L : List Ms} (hn : (L.map keyM).Nodup) (h : L.Pairwise (fun x y => ltOf cmpM y x = false)) : Rise L := by
  unfold Rise
  rw [List.pairwise_iff_getElem] at *
  intro i j hi hj hij
  have h1 := h i j hi hj hij
  have h2 := List.pairwise_iff_getElem.1 hn i j (by simpa using hi) (by simpa using hj) hij
  simp only [List.getElem_map] at h2
  rw [ltOf_cmpM] at h1
  exact ltK_key (fun e => h2 e.symm) h1

set_option maxRecDepth 100000 in
set_option maxHeartbeats 1600000 in
theorem cmp_at : CmpAt Try.prog 35 Ms.enc cmpM := by
  intro x y w
  have hG1 := (Grew.refl w).alloc (.cells #[.int .i64 x.f, .int .u32 x.c, .string x.d] 61)
  obtain ⟨w1, hw1⟩ : ∃ w1, w.alloc (.cells #[.int .i64 x.f, .int .u32 x.c, .string x.d] 61) = w1 := ⟨_, rfl⟩
  have bx := Obj_.new w 61 #[.int .i64 x.f, .int .u32 x.c, .string x.d] (fun i => x.enc.getD i undef) (by intro i hi; simp at hi; match i, hi with | 0, _ => rfl | 1, _ => rfl | 2, _ => rfl)
  have by_ := Obj_.new w1 61 #[.int .i64 y.f, .int .u32 y.c, .string y.d] (fun i => y.enc.getD i undef) (by intro i hi; simp at hi; match i, hi with | 0, _ => rfl | 1, _ => rfl | 2, _ => rfl)
  have hs1 : w1.heap.size = w.heap.size + 1 := by rw [← hw1]; simp
  have hE1 := Ext.alloc w1 (.cells #[.int .i64 y.f, .int .u32 y.c, .string y.d] 61)
  rw [hw1] at bx hG1
  have hG2 := hG1.alloc (.cells #[.int .i64 y.f, .int .u32 y.c, .string y.d] 61)
  replace bx := bx.ext hE1
  have x0 := bx.cell 0 (by simp)
  have x1 := bx.cell 1 (by simp)
  have xl := bx.lt
  have y0 := by_.cell 0 (by simp)
  have y1 := by_.cell 1 (by simp)
  have yl := by_.lt
  rw [hs1] at y0 y1 yl
  simp only [Ms.enc, List.getD_cons_zero, List.getD_cons_succ] at x0 x1 y0 y1
  have HG := Lib.hid hG2
  have hr : cmpM x y = (if cmpI x.f y.f = 0 then cmpI x.c y.c else cmpI x.f y.f) := rfl
  have Hr := Lib.hid hr
  clear bx by_ hE1 hG1 hG2 hr
  have c1 := fun w' => cmp_int x.f y.f w'
  have c2 := fun w' => cmp_u32 x.c y.c w'
  generalize cmpI x.f y.f = r1 at *
  generalize cmpI x.c y.c = r2 at *
  have C1 := Lib.hid c1
  have C2 := Lib.hid c2
  clear c1 c2
  show Calls Try.prog 35 #[.agg #[.int .i64 x.f, .int .u32 x.c, .string x.d], .agg #[.int .i64 y.f, .int .u32 y.c, .string y.d]] w _
  go_enter Try.func35, Try.ntmps35
  go_upto_region 1 with fail
  rw [hw1] at *
  rw [hs1] at *
  generalize hW : w1.alloc (.cells #[.int .i64 y.f, .int .u32 y.c, .string y.d] 61) = W at *
  refine wp_region_planC [(0,0),(1,0),(2,0),(3,1),(4,0),(5,0),(6,0),(7,1),(8,1),(9,0),(10,0),(11,0),(12,1),(13,0),(14,0),(15,0),(16,1),(17,1),(18,2),(19,1),(20,0)] (by kernel_rfl) (by kernel_rfl) (by kernel_rfl) (G := fun _ => True) (Grew W) (fun _ _ => trivial) (Grew.drawn _) ?_
  iterate 3
    first
      | refine Gx.skip rfl rfl (by simp only [List.set_cons_zero, List.set_cons_succ]; rfl) ?_
      | (with_reducible refine Gx.lab0 ?_
         first
           | refine Gx.moveT rfl rfl rfl (by simp only [List.set_cons_zero, List.set_cons_succ]; rfl) ?_
           | refine Gx.assignT rfl rfl rfl (by simp only [List.set_cons_zero, List.set_cons_succ]; rfl) ?_
           | refine Gx.pure_ rfl rfl (fun _ => by go_simp; first | done | rfl) (by simp only [List.set_cons_zero, List.set_cons_succ]; rfl) ?_)
  refine Gx.look rfl rfl (fun w' hC => by obtain ⟨hc, hf, hl⟩ := Ext.cells (Grew.ext hC); go_simp; rfl) (by simp only [List.set_cons_zero, List.set_cons_succ]; rfl) ?_
  iterate 3
    first
      | refine Gx.skip rfl rfl (by simp only [List.set_cons_zero, List.set_cons_succ]; rfl) ?_
      | (with_reducible refine Gx.lab0 ?_
         first
           | refine Gx.moveT rfl rfl rfl (by simp only [List.set_cons_zero, List.set_cons_succ]; rfl) ?_
           | refine Gx.assignT rfl rfl rfl (by simp only [List.set_cons_zero, List.set_cons_succ]; rfl) ?_
           | refine Gx.pure_ rfl rfl (fun _ => by go_simp; first | done | rfl) (by simp only [List.set_cons_zero, List.set_cons_succ]; rfl) ?_)
  refine Gx.look rfl rfl (fun w' hC => by obtain ⟨hc, hf, hl⟩ := Ext.cells (Grew.ext hC); go_simp; rfl) (by simp only [List.set_cons_zero, List.set_cons_succ]; rfl) ?_
  refine Gx.call1 (.int .i64 r1) (args := #[.int .i64 x.f, .int .i64 y.f]) rfl rfl (fun _ => by first | (go_simp; done) | (go_simp; rfl)) (fun w' _ => C1.out w') (by simp only [List.set_cons_zero, List.set_cons_succ]; rfl) ?_
  iterate 3
    first
      | refine Gx.skip rfl rfl (by simp only [List.set_cons_zero, List.set_cons_succ]; rfl) ?_
      | (with_reducible refine Gx.lab0 ?_
         first
           | refine Gx.moveT rfl rfl rfl (by simp only [List.set_cons_zero, List.set_cons_succ]; rfl) ?_
           | refine Gx.assignT rfl rfl rfl (by simp only [List.set_cons_zero, List.set_cons_succ]; rfl) ?_
           | refine Gx.pure_ rfl rfl (fun _ => by go_simp; first | done | rfl) (by simp only [List.set_cons_zero, List.set_cons_succ]; rfl) ?_)
  refine Gx.look rfl rfl (fun w' hC => by obtain ⟨hc, hf, hl⟩ := Ext.cells (Grew.ext hC); go_simp; rfl) (by simp only [List.set_cons_zero, List.set_cons_succ]; rfl) ?_
  iterate 3
    first
      | refine Gx.skip rfl rfl (by simp only [List.set_cons_zero, List.set_cons_succ]; rfl) ?_
      | (with_reducible refine Gx.lab0 ?_
         first
           | refine Gx.moveT rfl rfl rfl (by simp only [List.set_cons_zero, List.set_cons_succ]; rfl) ?_
           | refine Gx.assignT rfl rfl rfl (by simp only [List.set_cons_zero, List.set_cons_succ]; rfl) ?_
           | refine Gx.pure_ rfl rfl (fun _ => by go_simp; first | done | rfl) (by simp only [List.set_cons_zero, List.set_cons_succ]; rfl) ?_)
  refine Gx.look rfl rfl (fun w' hC => by obtain ⟨hc, hf, hl⟩ := Ext.cells (Grew.ext hC); go_simp; rfl) (by simp only [List.set_cons_zero, List.set_cons_succ]; rfl) ?_
  refine Gx.call1 (.int .i64 r2) (args := #[.int .u32 x.c, .int .u32 y.c]) rfl rfl (fun _ => by first | (go_simp; done) | (go_simp; rfl)) (fun w' _ => C2.out w') (by simp only [List.set_cons_zero, List.set_cons_succ]; rfl) ?_
  refine Gx.keepN (fun b => .slice (some ⟨b, 0, none⟩) 2 2) (fun b w' => b < w'.heap.size ∧ w'.cell? ⟨b, 0, none⟩ = some (.int .i64 r1) ∧ w'.cell? ⟨b, 1, none⟩ = some (.int .i64 r2)) rfl rfl (fun w' hC => stepAt_ints2 hC rfl rfl) (fun gb => ?_)
  simp only [List.set_cons_zero, List.set_cons_succ]
  refine Gx.call1 (.int .i64 (if r1 = 0 then r2 else r1)) (args := #[.slice (some ⟨gb, 0, none⟩) 2 2]) rfl rfl (fun _ => by first | (go_simp; done) | (go_simp; rfl)) (fun w' hC => cmp_or r1 r2 gb w' hC.2.1 hC.2.2.1 hC.2.2.2) (by simp only [List.set_cons_zero, List.set_cons_succ]; rfl) ?_
  rw [← Hr.out]
  first
    | refine Gx.skip rfl rfl (by simp only [List.set_cons_zero, List.set_cons_succ]; rfl) ?_
    | (with_reducible refine Gx.lab0 ?_
       first
         | refine Gx.moveT rfl rfl rfl (by simp only [List.set_cons_zero, List.set_cons_succ]; rfl) ?_
         | refine Gx.assignT rfl rfl rfl (by simp only [List.set_cons_zero, List.set_cons_succ]; rfl) ?_
         | refine Gx.pure_ rfl rfl (fun _ => by go_simp; first | done | rfl) (by simp only [List.set_cons_zero, List.set_cons_succ]; rfl) ?_)
  refine Gx.done (fun w9 hC => ?_)
  have HG9 := Lib.hid (HG.out.trans hC.1)
  clear hC x0 x1 y0 y1 xl yl
  go_wp2
  go_ret
  exact ⟨rfl, HG9.out⟩
end Go.Proofs.Ytkkcdoajdhbofaa
