/-
  rostrumlaw11.SequenceNone: what it computes.
-/
import Derived.Test.YtokljdkeegdniaaShown
namespace Go.Proofs.Ytokljdkeegdniaa
open Go.RowKit
attribute [local go_sem] Oper.semAt_some

def LawP (w : World) (e : Ending) (w' : World) : Prop := e = .returned (.bool true) ∧ Ext w w'
set_option maxRecDepth 100000 in
set_option maxHeartbeats 3200000 in
theorem none_law (w : World) (x : Nb) : Calls Try.prog 8 #[x.val] w (LawP w) := by
  go_enter Try.func8, Try.ntmps8
  go_upto_region 0 with fail
  refine wp_region_line [(0,2),(1,0)] (by kernel_rfl) (by kernel_rfl) (Ext w) (fun _ _ h k => h.trans k) (Ext.refl _) ?_
  refine Fx.mkPtr (fun B w' => w.heap.size ≤ B ∧ Obj_ w' B 5 (nbF x)) (fun B _ _ h k => ⟨h.1, h.2.ext k⟩) rfl rfl (fun w' hC => stepAt_box_Nb hC x rfl) (fun B => ?_)
  simp only [List.set_cons_zero, List.set_cons_succ]
  first
    | refine Fx.skip rfl rfl (by simp only [List.set_cons_zero, List.set_cons_succ]; rfl) ?_
    | (with_reducible refine Fx.lab0 ?_
       first
         | refine Fx.moveT rfl rfl rfl (by simp only [List.set_cons_zero, List.set_cons_succ]; rfl) ?_
         | refine Fx.assignT rfl rfl rfl (by simp only [List.set_cons_zero, List.set_cons_succ]; rfl) ?_
         | refine Fx.pure_ rfl rfl (fun _ => by go_simp; first | done | rfl) (by simp only [List.set_cons_zero, List.set_cons_succ]; rfl) ?_)
    | (with_reducible refine Fx.lab1 ?_
       refine Fx.look rfl rfl (fun w' hC => by obtain ⟨hc, hf, hl⟩ := Ext.cells hC; go_simp; rfl) (by simp only [List.set_cons_zero, List.set_cons_succ]; rfl) ?_)
  refine Fx.done (fun w1 hC => ?_)
  have HE1 := Lib.hid hC.1
  have HO1 := Lib.hid hC.2.2
  clear hC
  go_upto_region 4 with (go_at_call 9; refine (shown_at _).mono ?_; rintro e w2 ⟨rfl, hE⟩; have H2 := Lib.hid hE; clear hE)
  have HE2 := Lib.hid (HE1.out.trans H2.out)
  have HO2 := Lib.hid (HO1.out.ext H2.out)
  clear HE1 HO1 H2
  obtain ⟨m0, m1, m2⟩ := HO2.out.nb.ms
  have nl := HO2.out.lt
  refine wp_region_line [(0,0),(1,0),(2,1),(3,1),(4,0),(5,0),(6,0),(7,2),(8,3),(9,0)] (by kernel_rfl) (by kernel_rfl) (Ext w2) (fun _ _ h k => h.trans k) (Ext.refl _) ?_
  iterate 2
    first
      | refine Fx.skip rfl rfl (by simp only [List.set_cons_zero, List.set_cons_succ]; rfl) ?_
      | (with_reducible refine Fx.lab0 ?_
         first
           | refine Fx.moveT rfl rfl rfl (by simp only [List.set_cons_zero, List.set_cons_succ]; rfl) ?_
           | refine Fx.assignT rfl rfl rfl (by simp only [List.set_cons_zero, List.set_cons_succ]; rfl) ?_
           | refine Fx.pure_ rfl rfl (fun _ => by go_simp; first | done | rfl) (by simp only [List.set_cons_zero, List.set_cons_succ]; rfl) ?_)
      | (with_reducible refine Fx.lab1 ?_
         refine Fx.look rfl rfl (fun w' hC => by obtain ⟨hc, hf, hl⟩ := Ext.cells hC; go_simp; rfl) (by simp only [List.set_cons_zero, List.set_cons_succ]; rfl) ?_)
  refine Fx.look rfl rfl (op_load_Ms' (m := x.m) nl m0 m1 m2 rfl) (by simp only [List.set_cons_zero, List.set_cons_succ]; rfl) ?_
  refine Fx.call1 (v := .tuple #[nb0.val, .int .i64 1]) (args := #[.pointer none, x.m.val]) rfl rfl (fun _ => by first | (go_simp; done) | (go_simp; rfl)) (fun w' hC => num_nil w' x.m) (by simp only [List.set_cons_zero, List.set_cons_succ]; rfl) ?_
  iterate 3
    first
      | refine Fx.skip rfl rfl (by simp only [List.set_cons_zero, List.set_cons_succ]; rfl) ?_
      | (with_reducible refine Fx.lab0 ?_
         first
           | refine Fx.moveT rfl rfl rfl (by simp only [List.set_cons_zero, List.set_cons_succ]; rfl) ?_
           | refine Fx.assignT rfl rfl rfl (by simp only [List.set_cons_zero, List.set_cons_succ]; rfl) ?_
           | refine Fx.pure_ rfl rfl (fun _ => by go_simp; first | done | rfl) (by simp only [List.set_cons_zero, List.set_cons_succ]; rfl) ?_)
      | (with_reducible refine Fx.lab1 ?_
         refine Fx.look rfl rfl (fun w' hC => by obtain ⟨hc, hf, hl⟩ := Ext.cells hC; go_simp; rfl) (by simp only [List.set_cons_zero, List.set_cons_succ]; rfl) ?_)
  refine Fx.mkPtr (fun B w' => w2.heap.size ≤ B ∧ Obj_ w' B 5 (nbF nb0)) (fun B _ _ h k => ⟨h.1, h.2.ext k⟩) rfl rfl (fun w' hC => stepAt_alloc_Nb hC) (fun B6 => ?_)
  simp only [List.set_cons_zero, List.set_cons_succ]
  refine Fx.eff0 (NbPre w2 B6 nb0) (nbPre_stable _ _ _) rfl rfl (fun w' hC => stepAt_mono (stepAt_store_Nb hC.1 hC.2.1 hC.2.2 nb0 rfl rfl) (fun _ w'' h => ⟨h.1, hC.2.1, h.2⟩)) ?_
  first
    | refine Fx.skip rfl rfl (by simp only [List.set_cons_zero, List.set_cons_succ]; rfl) ?_
    | (with_reducible refine Fx.lab0 ?_
       first
         | refine Fx.moveT rfl rfl rfl (by simp only [List.set_cons_zero, List.set_cons_succ]; rfl) ?_
         | refine Fx.assignT rfl rfl rfl (by simp only [List.set_cons_zero, List.set_cons_succ]; rfl) ?_
         | refine Fx.pure_ rfl rfl (fun _ => by go_simp; first | done | rfl) (by simp only [List.set_cons_zero, List.set_cons_succ]; rfl) ?_)
    | (with_reducible refine Fx.lab1 ?_
       refine Fx.look rfl rfl (fun w' hC => by obtain ⟨hc, hf, hl⟩ := Ext.cells hC; go_simp; rfl) (by simp only [List.set_cons_zero, List.set_cons_succ]; rfl) ?_)
  refine Fx.done (fun w3 hC => ?_)
  have HE3 := Lib.hid (HE2.out.trans hC.1)
  have HO3 := Lib.hid (HO2.out.ext hC.1)
  clear hC m0 m1 m2 nl HE2 HO2
  have hN := HO3.out.nb
  have nl := HO3.out.lt
  go_upto_region 5 with fail
  refine wp_region_line [(0,0),(1,1),(2,1),(3,0),(4,0),(5,0),(6,0),(7,0)] (by kernel_rfl) (by kernel_rfl) (Ext w3) (fun _ _ h k => h.trans k) (Ext.refl _) ?_
  first
    | refine Fx.skip rfl rfl (by simp only [List.set_cons_zero, List.set_cons_succ]; rfl) ?_
    | (with_reducible refine Fx.lab0 ?_
       first
         | refine Fx.moveT rfl rfl rfl (by simp only [List.set_cons_zero, List.set_cons_succ]; rfl) ?_
         | refine Fx.assignT rfl rfl rfl (by simp only [List.set_cons_zero, List.set_cons_succ]; rfl) ?_
         | refine Fx.pure_ rfl rfl (fun _ => by go_simp; first | done | rfl) (by simp only [List.set_cons_zero, List.set_cons_succ]; rfl) ?_)
    | (with_reducible refine Fx.lab1 ?_
       refine Fx.look rfl rfl (fun w' hC => by obtain ⟨hc, hf, hl⟩ := Ext.cells hC; go_simp; rfl) (by simp only [List.set_cons_zero, List.set_cons_succ]; rfl) ?_)
  refine Fx.look rfl rfl (op_load_Nb' (m := x) nl hN rfl) (by simp only [List.set_cons_zero, List.set_cons_succ]; rfl) ?_
  refine Fx.call1 (v := .tuple #[.slice none 0 0, .int .i64 1]) (args := #[.pointer none, x.val]) rfl rfl (fun _ => by first | (go_simp; done) | (go_simp; rfl)) (fun w' hC => recv_nil w' x) (by simp only [List.set_cons_zero, List.set_cons_succ]; rfl) ?_
  iterate 5
    first
      | refine Fx.skip rfl rfl (by simp only [List.set_cons_zero, List.set_cons_succ]; rfl) ?_
      | (with_reducible refine Fx.lab0 ?_
         first
           | refine Fx.moveT rfl rfl rfl (by simp only [List.set_cons_zero, List.set_cons_succ]; rfl) ?_
           | refine Fx.assignT rfl rfl rfl (by simp only [List.set_cons_zero, List.set_cons_succ]; rfl) ?_
           | refine Fx.pure_ rfl rfl (fun _ => by go_simp; first | done | rfl) (by simp only [List.set_cons_zero, List.set_cons_succ]; rfl) ?_)
      | (with_reducible refine Fx.lab1 ?_
         refine Fx.look rfl rfl (fun w' hC => by obtain ⟨hc, hf, hl⟩ := Ext.cells hC; go_simp; rfl) (by simp only [List.set_cons_zero, List.set_cons_succ]; rfl) ?_)
  refine Fx.done (fun w4 hC => ?_)
  have HE4 := Lib.hid (HE3.out.trans hC)
  have hN4 := hN.ext hC nl
  have nl4 := hC.size
  have n0 := hN4.c0
  replace nl : B < w4.heap.size := by omega
  clear hC hN hN4 nl4 HE3 HO3
  go_upto_region 6 with fail
  refine wp_region_line [(0,0),(1,0),(2,1),(3,1),(4,0),(5,0),(6,0),(7,0),(8,0)] (by kernel_rfl) (by kernel_rfl) (Ext w4) (fun _ _ h k => h.trans k) (Ext.refl _) ?_
  iterate 3
    first
      | refine Fx.skip rfl rfl (by simp only [List.set_cons_zero, List.set_cons_succ]; rfl) ?_
      | (with_reducible refine Fx.lab0 ?_
         first
           | refine Fx.moveT rfl rfl rfl (by simp only [List.set_cons_zero, List.set_cons_succ]; rfl) ?_
           | refine Fx.assignT rfl rfl rfl (by simp only [List.set_cons_zero, List.set_cons_succ]; rfl) ?_
           | refine Fx.pure_ rfl rfl (fun _ => by go_simp; first | done | rfl) (by simp only [List.set_cons_zero, List.set_cons_succ]; rfl) ?_)
      | (with_reducible refine Fx.lab1 ?_
         refine Fx.look rfl rfl (fun w' hC => by obtain ⟨hc, hf, hl⟩ := Ext.cells hC; go_simp; rfl) (by simp only [List.set_cons_zero, List.set_cons_succ]; rfl) ?_)
  refine Fx.call1 (v := .tuple #[.slice none 0 0, .int .i64 1]) (args := #[.pointer none, .int .u32 x.e]) rfl rfl (fun _ => by first | (go_simp; done) | (go_simp; rfl)) (fun w' hC => move_nil w' x.e) (by simp only [List.set_cons_zero, List.set_cons_succ]; rfl) ?_
  iterate 5
    first
      | refine Fx.skip rfl rfl (by simp only [List.set_cons_zero, List.set_cons_succ]; rfl) ?_
      | (with_reducible refine Fx.lab0 ?_
         first
           | refine Fx.moveT rfl rfl rfl (by simp only [List.set_cons_zero, List.set_cons_succ]; rfl) ?_
           | refine Fx.assignT rfl rfl rfl (by simp only [List.set_cons_zero, List.set_cons_succ]; rfl) ?_
           | refine Fx.pure_ rfl rfl (fun _ => by go_simp; first | done | rfl) (by simp only [List.set_cons_zero, List.set_cons_succ]; rfl) ?_)
      | (with_reducible refine Fx.lab1 ?_
         refine Fx.look rfl rfl (fun w' hC => by obtain ⟨hc, hf, hl⟩ := Ext.cells hC; go_simp; rfl) (by simp only [List.set_cons_zero, List.set_cons_succ]; rfl) ?_)
  refine Fx.done (fun w5 hC => ?_)
  have HE5 := Lib.hid (HE4.out.trans hC)
  clear hC n0 nl HE4
  go_upto_region 7 with fail
  refine wp_region_line [(0,0),(1,0),(2,0),(3,0),(4,0),(5,0),(6,0),(7,0),(8,0),(9,0),(10,0),(11,0),(12,0),(13,0),(14,0),(15,1),(16,0),(17,0),(18,0),(19,0),(20,0),(21,1),(22,0),(23,0),(24,0),(25,0)] (by kernel_rfl) (by kernel_rfl) (Ext w5) (fun _ _ h k => h.trans k) (Ext.refl _) ?_
  iterate 15
    first
      | refine Fx.skip rfl rfl (by simp only [List.set_cons_zero, List.set_cons_succ]; rfl) ?_
      | (with_reducible refine Fx.lab0 ?_
         first
           | refine Fx.moveT rfl rfl rfl (by simp only [List.set_cons_zero, List.set_cons_succ]; rfl) ?_
           | refine Fx.assignT rfl rfl rfl (by simp only [List.set_cons_zero, List.set_cons_succ]; rfl) ?_
           | refine Fx.pure_ rfl rfl (fun _ => by go_simp; first | done | rfl) (by simp only [List.set_cons_zero, List.set_cons_succ]; rfl) ?_)
      | (with_reducible refine Fx.lab1 ?_
         refine Fx.look rfl rfl (fun w' hC => by obtain ⟨hc, hf, hl⟩ := Ext.cells hC; go_simp; rfl) (by simp only [List.set_cons_zero, List.set_cons_succ]; rfl) ?_)
  refine Fx.call1 (v := .slice none 0 0) (args := #[.pointer none]) rfl rfl (fun _ => by first | (go_simp; done) | (go_simp; rfl)) (fun w' hC => all_nil w') (by simp only [List.set_cons_zero, List.set_cons_succ]; rfl) ?_
  iterate 5
    first
      | refine Fx.skip rfl rfl (by simp only [List.set_cons_zero, List.set_cons_succ]; rfl) ?_
      | (with_reducible refine Fx.lab0 ?_
         first
           | refine Fx.moveT rfl rfl rfl (by simp only [List.set_cons_zero, List.set_cons_succ]; rfl) ?_
           | refine Fx.assignT rfl rfl rfl (by simp only [List.set_cons_zero, List.set_cons_succ]; rfl) ?_
           | refine Fx.pure_ rfl rfl (fun _ => by go_simp; first | done | rfl) (by simp only [List.set_cons_zero, List.set_cons_succ]; rfl) ?_)
      | (with_reducible refine Fx.lab1 ?_
         refine Fx.look rfl rfl (fun w' hC => by obtain ⟨hc, hf, hl⟩ := Ext.cells hC; go_simp; rfl) (by simp only [List.set_cons_zero, List.set_cons_succ]; rfl) ?_)
  refine Fx.call1 (v := .slice none 0 0) (args := #[.pointer none]) rfl rfl (fun _ => by first | (go_simp; done) | (go_simp; rfl)) (fun w' hC => marks_nil w') (by simp only [List.set_cons_zero, List.set_cons_succ]; rfl) ?_
  iterate 4
    first
      | refine Fx.skip rfl rfl (by simp only [List.set_cons_zero, List.set_cons_succ]; rfl) ?_
      | (with_reducible refine Fx.lab0 ?_
         first
           | refine Fx.moveT rfl rfl rfl (by simp only [List.set_cons_zero, List.set_cons_succ]; rfl) ?_
           | refine Fx.assignT rfl rfl rfl (by simp only [List.set_cons_zero, List.set_cons_succ]; rfl) ?_
           | refine Fx.pure_ rfl rfl (fun _ => by go_simp; first | done | rfl) (by simp only [List.set_cons_zero, List.set_cons_succ]; rfl) ?_)
      | (with_reducible refine Fx.lab1 ?_
         refine Fx.look rfl rfl (fun w' hC => by obtain ⟨hc, hf, hl⟩ := Ext.cells hC; go_simp; rfl) (by simp only [List.set_cons_zero, List.set_cons_succ]; rfl) ?_)
  refine Fx.done (fun w6 hC => ?_)
  have HC := Lib.hid (HE5.out.trans hC)
  clear hC
  go_wp2
  go_ret
  exact ⟨rfl, HC.out⟩
end Go.Proofs.Ytokljdkeegdniaa
