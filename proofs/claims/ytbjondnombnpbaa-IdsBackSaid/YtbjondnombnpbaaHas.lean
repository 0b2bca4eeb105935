/-
  ids.Book: Has and wait.
-/
import Derived.Test.YtbjondnombnpbaaBook
namespace Go.Proofs.Ytbjondnombnpbaa
open Go.RowKit

def idF (f c : Int) : Nat → Value := fun i => [Value.int .i64 f, .int .u32 c].getD i undef
theorem box_Id (w : World) (f c : Int) : Obj_ (w.alloc (.cells #[.int .i64 f, .int .u32 c] 32)) w.heap.size 2 (idF f c) :=
  Obj_.new w _ #[.int .i64 f, .int .u32 c] _ (by intro i hi; simp at hi; match i, hi with | 0, _ => rfl | 1, _ => rfl)
def MsPre (W : World) (B : Nat) (m : Ms) (w : World) : Prop := Ext W w ∧ W.heap.size ≤ B ∧ Obj_ w B 3 (msF m)
theorem msPre_stable (W : World) (B : Nat) (m : Ms) : StableF (MsPre W B m) := fun _ _ h k => ⟨h.1.trans k, h.2.1, h.2.2.ext k⟩
theorem lookVal (o : Option Ms) : ((o.map Ms.val).getD (.agg #[.int .i64 0, .int .u32 0, .string ⟨#[]⟩]) : Value) = (o.getD ms0).val := by cases o <;> rfl

set_option maxRecDepth 100000 in
set_option maxHeartbeats 1600000 in
theorem has_at {w : World} {b mb : Nat} {lv : Value} {σ : BSt} (hM : BookAt w b mb lv σ) (hO : σ.Ok) (f c : Int) :
    Calls Try.prog 16 #[.pointer (some ⟨b, 0, none⟩), .agg #[.int .i64 f, .int .u32 c]] w fun e w' => e = .returned (.bool (hasB σ f c)) ∧ Ext w w' := by
  have hE0 := Ext.alloc w (.cells #[.int .i64 f, .int .u32 c] 32)
  have hbx := box_Id w f c
  have e0 := hbx.cell 0 (by decide)
  have e1 := hbx.cell 1 (by decide)
  have el := hbx.lt
  simp only [idF, List.getD_cons_zero, List.getD_cons_succ] at e0 e1
  by_cases hf : 0 ≤ f ∧ f < 16
  · obtain ⟨k, rfl⟩ : ∃ k : Nat, f = k := ⟨f.toNat, by omega⟩
    have hk : k < 16 := by omega
    have hki : (k : Int) < 16 := by omega
    have hd : decide (0 ≤ (k : Int) ∧ (k : Int) < 16) = true := by simp; omega
    have Hd := Lib.hid hd
    by_cases hc1 : c < 1
    · have hN : hasB σ k c = false := by unfold hasB; simp; omega
      have hE := Lib.hid hE0
      rw [hN]
      clear hd hN hf hM hO hbx hE0
      go_enter Try.func16, Try.ntmps16
      go_wp2_with (go_at_call 28; refine (isNode_ids _ _).mono ?_; rw [Hd.out]; rintro e w' ⟨rfl, rfl⟩)
      go_ret
      exact ⟨rfl, hE.out⟩
    · have hN : hasB σ k c = ((kfind ((k : Int), c) σ.wt).isSome || decide (c ≤ σ.tk k)) := by
        unfold hasB
        rw [decide_eq_true (show 0 ≤ (k : Int) ∧ (k : Int) < 16 ∧ 1 ≤ c from by omega), Int.toNat_natCast]; rfl
      rw [hN]
      have HM := Lib.hid (hM.ext hE0)
      obtain ⟨c16, c17, cl, fb, lb, lm⟩ := (hM.ext hE0).cells
      replace cl := cl k hk
      obtain ⟨o, ho⟩ : ∃ o, kfind ((k : Int), c) σ.wt = o := ⟨_, rfl⟩
      have Ho := Lib.hid ho
      rw [ho]
      obtain ⟨q, hq⟩ : ∃ q, σ.tk k = q := ⟨_, rfl⟩
      rw [hq] at cl ⊢
      have hE := Lib.hid hE0
      have ht1 : decide (c < 1) = false := by simp; omega
      clear hd hN hf hM hO hbx hE0 ho hq c16 fb lm
      go_enter Try.func16, Try.ntmps16
      generalize hW : w.alloc (.cells #[.int .i64 (k : Int), .int .u32 c] 32) = W at *
      go_upto_region 3 with (go_at_call 28; refine (isNode_ids _ _).mono ?_; rw [Hd.out]; rintro e w' ⟨rfl, rfl⟩)
      refine wp_region_plan [(0,0),(1,0),(2,0),(3,1),(4,1),(5,1),(6,0),(7,0),(8,0),(9,2),(10,3),(11,0)] (by kernel_rfl) (by kernel_rfl) (by kernel_rfl) (Ext W) (fun _ _ h k => h.trans k) (Ext.drawn _ _) ?_
      iterate 4
        first
          | refine Fx.skip rfl rfl (by simp only [List.set_cons_zero, List.set_cons_succ]; rfl) ?_
          | (with_reducible refine Fx.lab0 ?_
             first
               | refine Fx.moveT rfl rfl rfl (by simp only [List.set_cons_zero, List.set_cons_succ]; rfl) ?_
               | refine Fx.assignT rfl rfl rfl (by simp only [List.set_cons_zero, List.set_cons_succ]; rfl) ?_
               | refine Fx.pure_ rfl rfl (fun _ => by go_simp; first | done | rfl) (by simp only [List.set_cons_zero, List.set_cons_succ]; rfl) ?_)
          | (with_reducible refine Fx.lab1 ?_
             refine Fx.look rfl rfl (fun w' hC => by obtain ⟨hc, hf, hl⟩ := Ext.cells hC; go_simp; rfl) (by simp only [List.set_cons_zero, List.set_cons_succ]; rfl) ?_)
      refine Fx.look rfl rfl (op_load_Id' el e0 e1 rfl) (by simp only [List.set_cons_zero, List.set_cons_succ]; rfl) ?_
      refine Fx.look (v := .tuple #[(o.getD ms0).val, .bool o.isSome]) rfl rfl (fun w' hC => by rw [op_look (k := ((k : Int), c)) (HM.out.map.ext hC) keysId Try.underlying50 (Try.zeroValue34 w') rfl rfl, Ho.out, lookVal]; rfl) (by simp only [List.set_cons_zero, List.set_cons_succ]; rfl) ?_
      iterate 3
        first
          | refine Fx.skip rfl rfl (by simp only [List.set_cons_zero, List.set_cons_succ]; rfl) ?_
          | (with_reducible refine Fx.lab0 ?_
             first
               | refine Fx.moveT rfl rfl rfl (by simp only [List.set_cons_zero, List.set_cons_succ]; rfl) ?_
               | refine Fx.assignT rfl rfl rfl (by simp only [List.set_cons_zero, List.set_cons_succ]; rfl) ?_
               | refine Fx.pure_ rfl rfl (fun _ => by go_simp; first | done | rfl) (by simp only [List.set_cons_zero, List.set_cons_succ]; rfl) ?_)
          | (with_reducible refine Fx.lab1 ?_
             refine Fx.look rfl rfl (fun w' hC => by obtain ⟨hc, hf, hl⟩ := Ext.cells hC; go_simp; rfl) (by simp only [List.set_cons_zero, List.set_cons_succ]; rfl) ?_)
      refine Fx.mkPtr (fun B w' => W.heap.size ≤ B ∧ Obj_ w' B 3 (msF ms0)) (fun B _ _ h k => ⟨h.1, h.2.ext k⟩) rfl rfl (fun w' hC => stepAt_alloc_Ms hC) (fun B => ?_)
      simp only [List.set_cons_zero, List.set_cons_succ]
      refine Fx.eff0 (MsPre W B (o.getD ms0)) (msPre_stable _ _ _) rfl rfl (fun w' hC => stepAt_mono (stepAt_store_Ms hC.1 hC.2.1 hC.2.2 (o.getD ms0) rfl rfl) (fun _ w'' h => ⟨h.1, hC.2.1, h.2⟩)) ?_
      first
        | refine Fx.skip rfl rfl (by simp only [List.set_cons_zero, List.set_cons_succ]; rfl) ?_
        | (with_reducible refine Fx.lab0 ?_
           first
             | refine Fx.moveT rfl rfl rfl (by simp only [List.set_cons_zero, List.set_cons_succ]; rfl) ?_
             | refine Fx.assignT rfl rfl rfl (by simp only [List.set_cons_zero, List.set_cons_succ]; rfl) ?_
             | refine Fx.pure_ rfl rfl (fun _ => by go_simp; first | done | rfl) (by simp only [List.set_cons_zero, List.set_cons_succ]; rfl) ?_)
        | (with_reducible refine Fx.lab1 ?_
           refine Fx.look rfl rfl (fun w' hC => by obtain ⟨hc, hf, hl⟩ := Ext.cells hC; go_simp; rfl) (by simp only [List.set_cons_zero, List.set_cons_succ]; rfl) ?_)
      refine Fx.done (fun w1 hC => ?_)
      obtain ⟨hC1, hB, hOb⟩ := hC
      obtain ⟨xc, xf, xl⟩ := hC1.cells
      replace e0 := (xc _ _ el).trans e0
      replace e1 := (xc _ _ el).trans e1
      replace cl := (xc _ _ lb).trans cl
      replace lb := xl _ lb
      replace el := xl _ el
      have HE1 := Lib.hid (hE.out.trans hC1)
      clear xc xf xl hC1 hB hOb c17
      cases o with
      | none =>
        simp only [Option.isSome_none]
        go_upto_region 4 with fail
        refine wp_region_plan [(0,0),(1,0),(2,0),(3,1),(4,0),(5,0),(6,1),(7,0),(8,0),(9,0),(10,1),(11,0),(12,0),(13,0)] (by kernel_rfl) (by kernel_rfl) (by kernel_rfl) (Ext w1) (fun _ _ h k => h.trans k) (Ext.drawn _ _) ?_
        iterate 14
          first
            | refine Fx.skip rfl rfl (by simp only [List.set_cons_zero, List.set_cons_succ]; rfl) ?_
            | (with_reducible refine Fx.lab0 ?_
               first
                 | refine Fx.moveT rfl rfl rfl (by simp only [List.set_cons_zero, List.set_cons_succ]; rfl) ?_
                 | refine Fx.assignT rfl rfl rfl (by simp only [List.set_cons_zero, List.set_cons_succ]; rfl) ?_
                 | refine Fx.pure_ rfl rfl (fun _ => by go_simp; first | done | rfl) (by simp only [List.set_cons_zero, List.set_cons_succ]; rfl) ?_)
            | (with_reducible refine Fx.lab1 ?_
               refine Fx.look rfl rfl (fun w' hC => by obtain ⟨hc, hf, hl⟩ := Ext.cells hC; go_simp; rfl) (by simp only [List.set_cons_zero, List.set_cons_succ]; rfl) ?_)
        refine Fx.done (fun w2 hC => ?_)
        go_wp2
        go_ret
        exact ⟨rfl, HE1.out.trans hC⟩
      | some y =>
        simp only [Option.isSome_some]
        go_upto_region 4 with fail
        refine wp_region_plan [(0,0),(1,0),(2,0),(3,1),(4,0),(5,0),(6,1),(7,0),(8,0),(9,0),(10,1),(11,0),(12,0),(13,0)] (by kernel_rfl) (by kernel_rfl) (by kernel_rfl) (Ext w1) (fun _ _ h k => h.trans k) (Ext.drawn _ _) ?_
        iterate 14
          first
            | refine Fx.skip rfl rfl (by simp only [List.set_cons_zero, List.set_cons_succ]; rfl) ?_
            | (with_reducible refine Fx.lab0 ?_
               first
                 | refine Fx.moveT rfl rfl rfl (by simp only [List.set_cons_zero, List.set_cons_succ]; rfl) ?_
                 | refine Fx.assignT rfl rfl rfl (by simp only [List.set_cons_zero, List.set_cons_succ]; rfl) ?_
                 | refine Fx.pure_ rfl rfl (fun _ => by go_simp; first | done | rfl) (by simp only [List.set_cons_zero, List.set_cons_succ]; rfl) ?_)
            | (with_reducible refine Fx.lab1 ?_
               refine Fx.look rfl rfl (fun w' hC => by obtain ⟨hc, hf, hl⟩ := Ext.cells hC; go_simp; rfl) (by simp only [List.set_cons_zero, List.set_cons_succ]; rfl) ?_)
        refine Fx.done (fun w2 hC => ?_)
        go_wp2
        go_ret
        exact ⟨rfl, HE1.out.trans hC⟩
  · have hd : decide (0 ≤ f ∧ f < 16) = false := by simpa using hf
    have Hd := Lib.hid hd
    have hN : hasB σ f c = false := by unfold hasB; simp; intro h1 h2; exact absurd ⟨h1, h2⟩ hf
    have hE := Lib.hid hE0
    rw [hN]
    clear hd hN hf hM hO hbx hE0
    go_enter Try.func16, Try.ntmps16
    go_wp2_with (go_at_call 28; refine (isNode_ids _ _).mono ?_; rw [Hd.out]; rintro e w' ⟨rfl, rfl⟩)
    go_ret
    exact ⟨rfl, hE.out⟩
end Go.Proofs.Ytbjondnombnpbaa
