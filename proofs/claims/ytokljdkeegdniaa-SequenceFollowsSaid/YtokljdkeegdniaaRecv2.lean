/-
  sequence.Follower: Receive, whatever it is handed.
-/
import Derived.Test.YtokljdkeegdniaaMarks
namespace Go.Proofs.Ytokljdkeegdniaa
open Go.RowKit
attribute [local go_sem] Oper.semAt_some

set_option maxRecDepth 100000 in
set_option maxHeartbeats 3200000 in
theorem recv_old {w : World} {b mw mb : Nat} {σ : FwSt} (h : FwAt w b mw mb σ) (x : Nb) (hr : rightB x.m = true) (hn : 1 ≤ x.n) (hE : x.e < σ.ep) :
    Calls Try.prog 14 #[.pointer (some ⟨b, 0, none⟩), x.val] w fun e w' => e = .returned (.tuple #[.slice none 0 0, .int .i64 110]) ∧ Ext w w' := by
  have H := Lib.hid h
  have Hr := Lib.hid hr
  have hn1 : ¬ x.n < 1 := by omega
  clear h hr hn
  go_enter Try.func14, Try.ntmps14
  go_upto_region 0 with fail
  refine wp_region_line [(0,2),(1,0),(2,0)] (by kernel_rfl) (by kernel_rfl) (Ext w) (fun _ _ h k => h.trans k) (Ext.refl _) ?_
  refine Fx.mkPtr (fun B w' => w.heap.size ≤ B ∧ Obj_ w' B 5 (nbF x)) (fun B _ _ h k => ⟨h.1, h.2.ext k⟩) rfl rfl (fun w' hC => stepAt_box_Nb hC x rfl) (fun B => ?_)
  simp only [List.set_cons_zero, List.set_cons_succ]
  iterate 2
    first
      | refine Fx.skip rfl rfl (by simp only [List.set_cons_zero, List.set_cons_succ]; rfl) ?_
      | (with_reducible refine Fx.lab0 ?_
         first
           | refine Fx.moveT rfl rfl rfl (by simp only [List.set_cons_zero, List.set_cons_succ]; rfl) ?_
           | refine Fx.assignT rfl rfl rfl (by simp only [List.set_cons_zero, List.set_cons_succ]; rfl) ?_
           | refine Fx.pure_ rfl rfl (fun _ => by go_simp; first | done | rfl) (by simp only [List.set_cons_zero, List.set_cons_succ]; rfl) ?_)
      | (with_reducible refine Fx.lab1 ?_
         refine Fx.look rfl rfl (fun w' hC => by obtain ⟨hc, hf, hl⟩ := Ext.cells hC; go_simp; rfl) (by simp only [List.set_cons_zero, List.set_cons_succ]; rfl) ?_)
  refine Fx.done (fun w1 hC => ?_)
  obtain ⟨hE1, hB, hOb⟩ := hC
  have HE1 := Lib.hid hE1
  have H1 := Lib.hid (H.out.ext hE1)
  have HOb := Lib.hid hOb
  have n0 := hOb.nb.c0
  have n1 := hOb.nb.c1
  obtain ⟨m0, m1, m2⟩ := hOb.nb.ms
  have nl := hOb.lt
  simp only [Nat.zero_add] at n1
  clear hE1 hB hOb
  go_upto_region 3 with (go_at_call 25; refine (isNil_at H1.out).mono ?_; rintro e w2 ⟨rfl, rfl⟩)
  refine wp_region_line [(0,0),(1,1),(2,1),(3,0),(4,0),(5,0),(6,1),(7,0),(8,0)] (by kernel_rfl) (by kernel_rfl) (Ext w2) (fun _ _ h k => h.trans k) (Ext.refl _) ?_
  first
    | refine Fx.skip rfl rfl (by simp only [List.set_cons_zero, List.set_cons_succ]; rfl) ?_
    | (with_reducible refine Fx.lab0 ?_
       first
         | refine Fx.moveT rfl rfl rfl (by simp only [List.set_cons_zero, List.set_cons_succ]; rfl) ?_
         | refine Fx.assignT rfl rfl rfl (by simp only [List.set_cons_zero, List.set_cons_succ]; rfl) ?_
         | refine Fx.pure_ rfl rfl (fun _ => by go_simp; first | done | rfl) (by simp only [List.set_cons_zero, List.set_cons_succ]; rfl) ?_)
    | (with_reducible refine Fx.lab1 ?_
       refine Fx.look rfl rfl (fun w' hC => by obtain ⟨hc, hf, hl⟩ := Ext.cells hC; go_simp; rfl) (by simp only [List.set_cons_zero, List.set_cons_succ]; rfl) ?_)
  refine Fx.look rfl rfl (op_load_Ms' (m := x.m) nl m0 m1 m2 rfl) (by simp only [List.set_cons_zero, List.set_cons_succ]; rfl) ?_
  refine Fx.call1 (v := .bool true) (args := #[x.m.val]) rfl rfl (fun _ => by first | (go_simp; done) | (go_simp; rfl)) (fun w' hC => (right_ids x.m w').mono (fun e w'' hh => by rw [Hr.out] at hh; exact hh)) (by simp only [List.set_cons_zero, List.set_cons_succ]; rfl) ?_
  iterate 6
    first
      | refine Fx.skip rfl rfl (by simp only [List.set_cons_zero, List.set_cons_succ]; rfl) ?_
      | (with_reducible refine Fx.lab0 ?_
         first
           | refine Fx.moveT rfl rfl rfl (by simp only [List.set_cons_zero, List.set_cons_succ]; rfl) ?_
           | refine Fx.assignT rfl rfl rfl (by simp only [List.set_cons_zero, List.set_cons_succ]; rfl) ?_
           | refine Fx.pure_ rfl rfl (fun _ => by go_simp; first | done | rfl) (by simp only [List.set_cons_zero, List.set_cons_succ]; rfl) ?_)
      | (with_reducible refine Fx.lab1 ?_
         refine Fx.look rfl rfl (fun w' hC => by obtain ⟨hc, hf, hl⟩ := Ext.cells hC; go_simp; rfl) (by simp only [List.set_cons_zero, List.set_cons_succ]; rfl) ?_)
  refine Fx.done (fun w3 hC => ?_)
  obtain ⟨xc, xf, xl⟩ := hC.cells
  replace n0 := (xc _ _ nl).trans n0
  replace nl := xl _ nl
  have H3 := Lib.hid (H1.out.ext hC)
  have HE3 := Lib.hid (HE1.out.trans hC)
  have HOb3 := Lib.hid (HOb.out.ext hC)
  obtain ⟨c0, c1, c2, c3, lb⟩ := H3.out.cells
  obtain ⟨ep, hep⟩ : ∃ ep, σ.ep = ep := ⟨_, rfl⟩
  have Hep := Lib.hid hep
  rw [hep] at c0 hE
  clear hep
  clear xc xf xl hC n1 m0 m1 m2 c1 c2 c3 H1 HE1 HOb
  go_upto_region 5 with fail
  refine wp_region_plan [(0,0),(1,1),(2,0),(3,0),(4,0),(5,1),(6,0)] (by kernel_rfl) (by kernel_rfl) (by kernel_rfl) (Ext w3) (fun _ _ h k => h.trans k) (Ext.drawn _ _) ?_
  iterate 5
    first
      | refine Fx.skip rfl rfl (by simp only [List.set_cons_zero, List.set_cons_succ]; rfl) ?_
      | (with_reducible refine Fx.lab0 ?_
         first
           | refine Fx.moveT rfl rfl rfl (by simp only [List.set_cons_zero, List.set_cons_succ]; rfl) ?_
           | refine Fx.assignT rfl rfl rfl (by simp only [List.set_cons_zero, List.set_cons_succ]; rfl) ?_
           | refine Fx.pure_ rfl rfl (fun _ => by go_simp; first | done | rfl) (by simp only [List.set_cons_zero, List.set_cons_succ]; rfl) ?_)
      | (with_reducible refine Fx.lab1 ?_
         refine Fx.look rfl rfl (fun w' hC => by obtain ⟨hc, hf, hl⟩ := Ext.cells hC; go_simp; rfl) (by simp only [List.set_cons_zero, List.set_cons_succ]; rfl) ?_)
  refine Fx.call1 (v := .int .u32 ep) (args := #[.pointer (some ⟨b, 0, none⟩)]) rfl rfl (fun _ => by first | (go_simp; done) | (go_simp; rfl)) (fun w' hC => (era_in (w := w') ((hC.cells.1 _ _ lb).trans c0)).mono (fun e w'' hh => ⟨hh.1, by rw [hh.2]; exact Ext.refl _⟩)) (by simp only [List.set_cons_zero, List.set_cons_succ]; rfl) ?_
  refine Fx.pure_ (v := .bool true) rfl rfl (fun _ => by first | (go_simp; done) | (go_simp; rfl)) (by simp only [List.set_cons_zero, List.set_cons_succ]; rfl) ?_
  refine Fx.done (fun w4 hC => ?_)
  have HE4 := Lib.hid (HE3.out.trans hC)
  clear hC n0 c0 lb nl
  go_wp2
  go_ret2
  exact ⟨rfl, HE4.out⟩
set_option maxRecDepth 100000 in
set_option maxHeartbeats 3200000 in
theorem recv_ahead {w : World} {b mw mb : Nat} {σ : FwSt} (h : FwAt w b mw mb σ) (hlen : σ.bf.length ≤ 1000000) (x : Nb) (hr : rightB x.m = true) (hn : 1 ≤ x.n) (hE : σ.ep < x.e) :
    Calls Try.prog 14 #[.pointer (some ⟨b, 0, none⟩), x.val] w fun e w' => e = .returned (.tuple #[.slice none 0 0, .int .i64 0]) ∧ FwAt w' b mw mb (keepS σ x) ∧ Mods (FF b mw mb) w w' := by
  have H := Lib.hid h
  have Hr := Lib.hid hr
  have Hlen := Lib.hid hlen
  have hn1 : ¬ x.n < 1 := by omega
  clear h hr hn hlen
  go_enter Try.func14, Try.ntmps14
  go_upto_region 0 with fail
  refine wp_region_line [(0,2),(1,0),(2,0)] (by kernel_rfl) (by kernel_rfl) (Ext w) (fun _ _ h k => h.trans k) (Ext.refl _) ?_
  refine Fx.mkPtr (fun B w' => w.heap.size ≤ B ∧ Obj_ w' B 5 (nbF x)) (fun B _ _ h k => ⟨h.1, h.2.ext k⟩) rfl rfl (fun w' hC => stepAt_box_Nb hC x rfl) (fun B => ?_)
  simp only [List.set_cons_zero, List.set_cons_succ]
  iterate 2
    first
      | refine Fx.skip rfl rfl (by simp only [List.set_cons_zero, List.set_cons_succ]; rfl) ?_
      | (with_reducible refine Fx.lab0 ?_
         first
           | refine Fx.moveT rfl rfl rfl (by simp only [List.set_cons_zero, List.set_cons_succ]; rfl) ?_
           | refine Fx.assignT rfl rfl rfl (by simp only [List.set_cons_zero, List.set_cons_succ]; rfl) ?_
           | refine Fx.pure_ rfl rfl (fun _ => by go_simp; first | done | rfl) (by simp only [List.set_cons_zero, List.set_cons_succ]; rfl) ?_)
      | (with_reducible refine Fx.lab1 ?_
         refine Fx.look rfl rfl (fun w' hC => by obtain ⟨hc, hf, hl⟩ := Ext.cells hC; go_simp; rfl) (by simp only [List.set_cons_zero, List.set_cons_succ]; rfl) ?_)
  refine Fx.done (fun w1 hC => ?_)
  obtain ⟨hE1, hB, hOb⟩ := hC
  have HE1 := Lib.hid hE1
  have H1 := Lib.hid (H.out.ext hE1)
  have HOb := Lib.hid hOb
  have n0 := hOb.nb.c0
  have n1 := hOb.nb.c1
  obtain ⟨m0, m1, m2⟩ := hOb.nb.ms
  have nl := hOb.lt
  simp only [Nat.zero_add] at n1
  clear hE1 hB hOb
  go_upto_region 3 with (go_at_call 25; refine (isNil_at H1.out).mono ?_; rintro e w2 ⟨rfl, rfl⟩)
  refine wp_region_line [(0,0),(1,1),(2,1),(3,0),(4,0),(5,0),(6,1),(7,0),(8,0)] (by kernel_rfl) (by kernel_rfl) (Ext w2) (fun _ _ h k => h.trans k) (Ext.refl _) ?_
  first
    | refine Fx.skip rfl rfl (by simp only [List.set_cons_zero, List.set_cons_succ]; rfl) ?_
    | (with_reducible refine Fx.lab0 ?_
       first
         | refine Fx.moveT rfl rfl rfl (by simp only [List.set_cons_zero, List.set_cons_succ]; rfl) ?_
         | refine Fx.assignT rfl rfl rfl (by simp only [List.set_cons_zero, List.set_cons_succ]; rfl) ?_
         | refine Fx.pure_ rfl rfl (fun _ => by go_simp; first | done | rfl) (by simp only [List.set_cons_zero, List.set_cons_succ]; rfl) ?_)
    | (with_reducible refine Fx.lab1 ?_
       refine Fx.look rfl rfl (fun w' hC => by obtain ⟨hc, hf, hl⟩ := Ext.cells hC; go_simp; rfl) (by simp only [List.set_cons_zero, List.set_cons_succ]; rfl) ?_)
  refine Fx.look rfl rfl (op_load_Ms' (m := x.m) nl m0 m1 m2 rfl) (by simp only [List.set_cons_zero, List.set_cons_succ]; rfl) ?_
  refine Fx.call1 (v := .bool true) (args := #[x.m.val]) rfl rfl (fun _ => by first | (go_simp; done) | (go_simp; rfl)) (fun w' hC => (right_ids x.m w').mono (fun e w'' hh => by rw [Hr.out] at hh; exact hh)) (by simp only [List.set_cons_zero, List.set_cons_succ]; rfl) ?_
  iterate 6
    first
      | refine Fx.skip rfl rfl (by simp only [List.set_cons_zero, List.set_cons_succ]; rfl) ?_
      | (with_reducible refine Fx.lab0 ?_
         first
           | refine Fx.moveT rfl rfl rfl (by simp only [List.set_cons_zero, List.set_cons_succ]; rfl) ?_
           | refine Fx.assignT rfl rfl rfl (by simp only [List.set_cons_zero, List.set_cons_succ]; rfl) ?_
           | refine Fx.pure_ rfl rfl (fun _ => by go_simp; first | done | rfl) (by simp only [List.set_cons_zero, List.set_cons_succ]; rfl) ?_)
      | (with_reducible refine Fx.lab1 ?_
         refine Fx.look rfl rfl (fun w' hC => by obtain ⟨hc, hf, hl⟩ := Ext.cells hC; go_simp; rfl) (by simp only [List.set_cons_zero, List.set_cons_succ]; rfl) ?_)
  refine Fx.done (fun w3 hC => ?_)
  obtain ⟨xc, xf, xl⟩ := hC.cells
  replace n0 := (xc _ _ nl).trans n0
  replace nl := xl _ nl
  have H3 := Lib.hid (H1.out.ext hC)
  have HE3 := Lib.hid (HE1.out.trans hC)
  have HOb3 := Lib.hid (HOb.out.ext hC)
  obtain ⟨c0, c1, c2, c3, lb⟩ := H3.out.cells
  obtain ⟨ep, hep⟩ : ∃ ep, σ.ep = ep := ⟨_, rfl⟩
  have Hep := Lib.hid hep
  rw [hep] at c0 hE
  have hE2 : ¬ x.e < ep := by omega
  clear hep
  clear xc xf xl hC n1 m0 m1 m2 c1 c2 c3 H1 HE1 HOb
  go_upto_region 5 with fail
  refine wp_region_plan [(0,0),(1,1),(2,0),(3,0),(4,0),(5,1),(6,0)] (by kernel_rfl) (by kernel_rfl) (by kernel_rfl) (Ext w3) (fun _ _ h k => h.trans k) (Ext.drawn _ _) ?_
  iterate 5
    first
      | refine Fx.skip rfl rfl (by simp only [List.set_cons_zero, List.set_cons_succ]; rfl) ?_
      | (with_reducible refine Fx.lab0 ?_
         first
           | refine Fx.moveT rfl rfl rfl (by simp only [List.set_cons_zero, List.set_cons_succ]; rfl) ?_
           | refine Fx.assignT rfl rfl rfl (by simp only [List.set_cons_zero, List.set_cons_succ]; rfl) ?_
           | refine Fx.pure_ rfl rfl (fun _ => by go_simp; first | done | rfl) (by simp only [List.set_cons_zero, List.set_cons_succ]; rfl) ?_)
      | (with_reducible refine Fx.lab1 ?_
         refine Fx.look rfl rfl (fun w' hC => by obtain ⟨hc, hf, hl⟩ := Ext.cells hC; go_simp; rfl) (by simp only [List.set_cons_zero, List.set_cons_succ]; rfl) ?_)
  refine Fx.call1 (v := .int .u32 ep) (args := #[.pointer (some ⟨b, 0, none⟩)]) rfl rfl (fun _ => by first | (go_simp; done) | (go_simp; rfl)) (fun w' hC => (era_in (w := w') ((hC.cells.1 _ _ lb).trans c0)).mono (fun e w'' hh => ⟨hh.1, by rw [hh.2]; exact Ext.refl _⟩)) (by simp only [List.set_cons_zero, List.set_cons_succ]; rfl) ?_
  refine Fx.pure_ (v := .bool false) rfl rfl (fun _ => by first | (go_simp; done) | (go_simp; rfl)) (by simp only [List.set_cons_zero, List.set_cons_succ]; rfl) ?_
  refine Fx.done (fun w4 hC => ?_)
  obtain ⟨xc, xf, xl⟩ := hC.cells
  replace n0 := (xc _ _ nl).trans n0
  replace nl := xl _ nl
  replace c0 := (xc _ _ lb).trans c0
  replace lb := xl _ lb
  have H4 := Lib.hid (H3.out.ext hC)
  have HE4 := Lib.hid (HE3.out.trans hC)
  have HOb4 := Lib.hid (HOb3.out.ext hC)
  clear xc xf xl hC
  go_upto_region 7 with fail
  refine wp_region_plan [(0,0),(1,1),(2,0),(3,0),(4,0),(5,1),(6,0)] (by kernel_rfl) (by kernel_rfl) (by kernel_rfl) (Ext w4) (fun _ _ h k => h.trans k) (Ext.drawn _ _) ?_
  iterate 5
    first
      | refine Fx.skip rfl rfl (by simp only [List.set_cons_zero, List.set_cons_succ]; rfl) ?_
      | (with_reducible refine Fx.lab0 ?_
         first
           | refine Fx.moveT rfl rfl rfl (by simp only [List.set_cons_zero, List.set_cons_succ]; rfl) ?_
           | refine Fx.assignT rfl rfl rfl (by simp only [List.set_cons_zero, List.set_cons_succ]; rfl) ?_
           | refine Fx.pure_ rfl rfl (fun _ => by go_simp; first | done | rfl) (by simp only [List.set_cons_zero, List.set_cons_succ]; rfl) ?_)
      | (with_reducible refine Fx.lab1 ?_
         refine Fx.look rfl rfl (fun w' hC => by obtain ⟨hc, hf, hl⟩ := Ext.cells hC; go_simp; rfl) (by simp only [List.set_cons_zero, List.set_cons_succ]; rfl) ?_)
  refine Fx.call1 (v := .int .u32 ep) (args := #[.pointer (some ⟨b, 0, none⟩)]) rfl rfl (fun _ => by first | (go_simp; done) | (go_simp; rfl)) (fun w' hC => (era_in (w := w') ((hC.cells.1 _ _ lb).trans c0)).mono (fun e w'' hh => ⟨hh.1, by rw [hh.2]; exact Ext.refl _⟩)) (by simp only [List.set_cons_zero, List.set_cons_succ]; rfl) ?_
  refine Fx.pure_ (v := .bool true) rfl rfl (fun _ => by first | (go_simp; done) | (go_simp; rfl)) (by simp only [List.set_cons_zero, List.set_cons_succ]; rfl) ?_
  refine Fx.done (fun w5 hC => ?_)
  have H5 := Lib.hid (H4.out.ext hC)
  have HE5 := Lib.hid (HE4.out.trans hC)
  have HOb5 := Lib.hid (HOb4.out.ext hC)
  clear hC n0 c0 lb nl
  have hN := HOb5.out.nb
  have nl := HOb5.out.lt
  go_upto_region 8 with fail
  refine wp_region_line [(0,0),(1,1),(2,3)] (by kernel_rfl) (by kernel_rfl) (Ext w5) (fun _ _ h k => h.trans k) (Ext.refl _) ?_
  first
    | refine Fx.skip rfl rfl (by simp only [List.set_cons_zero, List.set_cons_succ]; rfl) ?_
    | (with_reducible refine Fx.lab0 ?_
       first
         | refine Fx.moveT rfl rfl rfl (by simp only [List.set_cons_zero, List.set_cons_succ]; rfl) ?_
         | refine Fx.assignT rfl rfl rfl (by simp only [List.set_cons_zero, List.set_cons_succ]; rfl) ?_
         | refine Fx.pure_ rfl rfl (fun _ => by go_simp; first | done | rfl) (by simp only [List.set_cons_zero, List.set_cons_succ]; rfl) ?_)
    | (with_reducible refine Fx.lab1 ?_
       refine Fx.look rfl rfl (fun w' hC => by obtain ⟨hc, hf, hl⟩ := Ext.cells hC; go_simp; rfl) (by simp only [List.set_cons_zero, List.set_cons_succ]; rfl) ?_)
  refine Fx.look rfl rfl (op_load_Nb' (m := x) nl hN rfl) (by simp only [List.set_cons_zero, List.set_cons_succ]; rfl) ?_
  refine Fx.eff (fun _ w' => FwAt w' b mw mb (keepS σ x) ∧ Mods (FF b mw mb) w5 w') (fun _ _ _ h k => ⟨h.1.ext k, h.2.then_ k⟩) rfl rfl (fun w' hC => ?_) (fun nv => ?_)
  · unfold stepAt
    rw [show (execOp _ _).run Try.prog w' = .ok (.enter 31 #[.pointer (some ⟨b, 0, none⟩), x.val]) w' from by first | (go_simp; done) | (go_simp; rfl)]
    exact (keep_at (H5.out.ext hC) Hlen.out x).mono (fun e w'' hh => by
      obtain ⟨⟨v, rfl⟩, h1, h2⟩ := hh
      exact ⟨v, rfl, h1, h2.after hC⟩)
  simp only [List.set_cons_zero, List.set_cons_succ]
  refine Fx.done (fun w6 hC => ?_)
  have HC := Lib.hid hC
  clear hC hN nl
  go_wp2
  go_ret2
  exact ⟨rfl, HC.out.1, (HE5.out.mods (FF b mw mb)).trans HC.out.2 (fun _ _ h => h)⟩
set_option maxRecDepth 100000 in
set_option maxHeartbeats 3200000 in
theorem recv_bad {w : World} {b mw mb : Nat} {σ : FwSt} (h : FwAt w b mw mb σ) (x : Nb) (hbad : rightB x.m = false ∨ x.n < 1) :
    Calls Try.prog 14 #[.pointer (some ⟨b, 0, none⟩), x.val] w fun e w' => e = .returned (.tuple #[.slice none 0 0, .int .i64 100]) ∧ Ext w w' := by
  have H := Lib.hid h
  obtain ⟨r, hr⟩ : ∃ r, rightB x.m = r := ⟨_, rfl⟩
  have Hr := Lib.hid hr
  rw [hr] at hbad
  clear h hr
  go_enter Try.func14, Try.ntmps14
  go_upto_region 0 with fail
  refine wp_region_line [(0,2),(1,0),(2,0)] (by kernel_rfl) (by kernel_rfl) (Ext w) (fun _ _ h k => h.trans k) (Ext.refl _) ?_
  refine Fx.mkPtr (fun B w' => w.heap.size ≤ B ∧ Obj_ w' B 5 (nbF x)) (fun B _ _ h k => ⟨h.1, h.2.ext k⟩) rfl rfl (fun w' hC => stepAt_box_Nb hC x rfl) (fun B => ?_)
  simp only [List.set_cons_zero, List.set_cons_succ]
  iterate 2
    first
      | refine Fx.skip rfl rfl (by simp only [List.set_cons_zero, List.set_cons_succ]; rfl) ?_
      | (with_reducible refine Fx.lab0 ?_
         first
           | refine Fx.moveT rfl rfl rfl (by simp only [List.set_cons_zero, List.set_cons_succ]; rfl) ?_
           | refine Fx.assignT rfl rfl rfl (by simp only [List.set_cons_zero, List.set_cons_succ]; rfl) ?_
           | refine Fx.pure_ rfl rfl (fun _ => by go_simp; first | done | rfl) (by simp only [List.set_cons_zero, List.set_cons_succ]; rfl) ?_)
      | (with_reducible refine Fx.lab1 ?_
         refine Fx.look rfl rfl (fun w' hC => by obtain ⟨hc, hf, hl⟩ := Ext.cells hC; go_simp; rfl) (by simp only [List.set_cons_zero, List.set_cons_succ]; rfl) ?_)
  refine Fx.done (fun w1 hC => ?_)
  obtain ⟨hE1, hB, hOb⟩ := hC
  have HE1 := Lib.hid hE1
  have H1 := Lib.hid (H.out.ext hE1)
  have HOb := Lib.hid hOb
  have n0 := hOb.nb.c0
  have n1 := hOb.nb.c1
  obtain ⟨m0, m1, m2⟩ := hOb.nb.ms
  have nl := hOb.lt
  simp only [Nat.zero_add] at n1
  clear hE1 hB hOb
  go_upto_region 3 with (go_at_call 25; refine (isNil_at H1.out).mono ?_; rintro e w2 ⟨rfl, rfl⟩)
  cases r with
  | false =>
    clear hbad
    refine wp_region_line [(0,0),(1,1),(2,1),(3,0),(4,0),(5,0),(6,1),(7,0),(8,0)] (by kernel_rfl) (by kernel_rfl) (Ext w2) (fun _ _ h k => h.trans k) (Ext.refl _) ?_
    first
      | refine Fx.skip rfl rfl (by simp only [List.set_cons_zero, List.set_cons_succ]; rfl) ?_
      | (with_reducible refine Fx.lab0 ?_
         first
           | refine Fx.moveT rfl rfl rfl (by simp only [List.set_cons_zero, List.set_cons_succ]; rfl) ?_
           | refine Fx.assignT rfl rfl rfl (by simp only [List.set_cons_zero, List.set_cons_succ]; rfl) ?_
           | refine Fx.pure_ rfl rfl (fun _ => by go_simp; first | done | rfl) (by simp only [List.set_cons_zero, List.set_cons_succ]; rfl) ?_)
      | (with_reducible refine Fx.lab1 ?_
         refine Fx.look rfl rfl (fun w' hC => by obtain ⟨hc, hf, hl⟩ := Ext.cells hC; go_simp; rfl) (by simp only [List.set_cons_zero, List.set_cons_succ]; rfl) ?_)
    refine Fx.look rfl rfl (op_load_Ms' (m := x.m) nl m0 m1 m2 rfl) (by simp only [List.set_cons_zero, List.set_cons_succ]; rfl) ?_
    refine Fx.call1 (v := .bool false) (args := #[x.m.val]) rfl rfl (fun _ => by first | (go_simp; done) | (go_simp; rfl)) (fun w' hC => (right_ids x.m w').mono (fun e w'' hh => by rw [Hr.out] at hh; exact hh)) (by simp only [List.set_cons_zero, List.set_cons_succ]; rfl) ?_
    iterate 6
      first
        | refine Fx.skip rfl rfl (by simp only [List.set_cons_zero, List.set_cons_succ]; rfl) ?_
        | (with_reducible refine Fx.lab0 ?_
           first
             | refine Fx.moveT rfl rfl rfl (by simp only [List.set_cons_zero, List.set_cons_succ]; rfl) ?_
             | refine Fx.assignT rfl rfl rfl (by simp only [List.set_cons_zero, List.set_cons_succ]; rfl) ?_
             | refine Fx.pure_ rfl rfl (fun _ => by go_simp; first | done | rfl) (by simp only [List.set_cons_zero, List.set_cons_succ]; rfl) ?_)
        | (with_reducible refine Fx.lab1 ?_
           refine Fx.look rfl rfl (fun w' hC => by obtain ⟨hc, hf, hl⟩ := Ext.cells hC; go_simp; rfl) (by simp only [List.set_cons_zero, List.set_cons_succ]; rfl) ?_)
    refine Fx.done (fun w3 hC => ?_)
    have HE3 := Lib.hid (HE1.out.trans hC)
    clear hC n0 n1 nl m0 m1 m2
    go_wp2
    go_ret2
    exact ⟨rfl, HE3.out⟩
  | true =>
    have hn1 : x.n < 1 := by simpa using hbad
    clear hbad
    refine wp_region_line [(0,0),(1,1),(2,1),(3,0),(4,0),(5,0),(6,1),(7,0),(8,0)] (by kernel_rfl) (by kernel_rfl) (Ext w2) (fun _ _ h k => h.trans k) (Ext.refl _) ?_
    first
      | refine Fx.skip rfl rfl (by simp only [List.set_cons_zero, List.set_cons_succ]; rfl) ?_
      | (with_reducible refine Fx.lab0 ?_
         first
           | refine Fx.moveT rfl rfl rfl (by simp only [List.set_cons_zero, List.set_cons_succ]; rfl) ?_
           | refine Fx.assignT rfl rfl rfl (by simp only [List.set_cons_zero, List.set_cons_succ]; rfl) ?_
           | refine Fx.pure_ rfl rfl (fun _ => by go_simp; first | done | rfl) (by simp only [List.set_cons_zero, List.set_cons_succ]; rfl) ?_)
      | (with_reducible refine Fx.lab1 ?_
         refine Fx.look rfl rfl (fun w' hC => by obtain ⟨hc, hf, hl⟩ := Ext.cells hC; go_simp; rfl) (by simp only [List.set_cons_zero, List.set_cons_succ]; rfl) ?_)
    refine Fx.look rfl rfl (op_load_Ms' (m := x.m) nl m0 m1 m2 rfl) (by simp only [List.set_cons_zero, List.set_cons_succ]; rfl) ?_
    refine Fx.call1 (v := .bool true) (args := #[x.m.val]) rfl rfl (fun _ => by first | (go_simp; done) | (go_simp; rfl)) (fun w' hC => (right_ids x.m w').mono (fun e w'' hh => by rw [Hr.out] at hh; exact hh)) (by simp only [List.set_cons_zero, List.set_cons_succ]; rfl) ?_
    iterate 6
      first
        | refine Fx.skip rfl rfl (by simp only [List.set_cons_zero, List.set_cons_succ]; rfl) ?_
        | (with_reducible refine Fx.lab0 ?_
           first
             | refine Fx.moveT rfl rfl rfl (by simp only [List.set_cons_zero, List.set_cons_succ]; rfl) ?_
             | refine Fx.assignT rfl rfl rfl (by simp only [List.set_cons_zero, List.set_cons_succ]; rfl) ?_
             | refine Fx.pure_ rfl rfl (fun _ => by go_simp; first | done | rfl) (by simp only [List.set_cons_zero, List.set_cons_succ]; rfl) ?_)
        | (with_reducible refine Fx.lab1 ?_
           refine Fx.look rfl rfl (fun w' hC => by obtain ⟨hc, hf, hl⟩ := Ext.cells hC; go_simp; rfl) (by simp only [List.set_cons_zero, List.set_cons_succ]; rfl) ?_)
    refine Fx.done (fun w3 hC => ?_)
    have HE3 := Lib.hid (HE1.out.trans hC)
    clear hC n0 n1 nl m0 m1 m2
    go_wp2
    go_ret2
    exact ⟨rfl, HE3.out⟩
end Go.Proofs.Ytokljdkeegdniaa
