/-
  batch.Pool: Add.
-/
import Derived.Test.YtkkcdoajdhbofaaPool
namespace Go.Proofs.Ytkkcdoajdhbofaa
open Go.RowKit
attribute [local go_sem] Oper.semAt_some

def AddR (w : World) (b mw md : Nat) (σ : PSt) (m : Ms) (e : Ending) (w' : World) : Prop :=
  e = .returned (.int .i64 (addE σ m)) ∧ PoolAt w' b mw md (addS σ m) ∧ Mods (FP b mw md) w w'
theorem add_nil (w : World) (m : Ms) : Calls Try.prog 13 #[.pointer none, m.val] w fun e w' => e = .returned (.int .i64 1) ∧ Ext w w' := by
  have HE := Lib.hid (Ext.alloc w (.cells #[.int .i64 m.f, .int .u32 m.c, .string m.d] 41))
  unfold Ms.val
  go_enter Try.func13, Try.ntmps13
  go_wp2_with (go_at_call 26; refine (isNil_nil _).mono ?_; rintro e w' ⟨rfl, rfl⟩)
  go_ret
  exact ⟨rfl, HE.out⟩
set_option maxRecDepth 100000 in
set_option maxHeartbeats 3200000 in
theorem add_at {w : World} {b mw md : Nat} {σ : PSt} (h : PoolAt w b mw md σ) (hlen : σ.wt.length ≤ 1000) (m : Ms) :
    Calls Try.prog 13 #[.pointer (some ⟨b, 0, none⟩), m.val] w (AddR w b mw md σ m) := by
  have hE0 := Ext.alloc w (.cells #[.int .i64 m.f, .int .u32 m.c, .string m.d] 41)
  have hbx := box_Ms w m
  obtain ⟨d0, d1, d2⟩ := hbx.ms
  have dl := hbx.lt
  have H := Lib.hid (h.ext hE0)
  have HE := Lib.hid hE0
  obtain ⟨r, hr⟩ : ∃ r, rightB m = r := ⟨_, rfl⟩
  have Hr := Lib.hid hr
  obtain ⟨o, ho⟩ : ∃ o, kfind (m.f, m.c) σ.wt = o := ⟨_, rfl⟩
  have Ho := Lib.hid ho
  obtain ⟨q, hq⟩ : ∃ q, isB σ (m.f, m.c) = q := ⟨_, rfl⟩
  have Hq := Lib.hid hq
  obtain ⟨n, hn⟩ : ∃ n, σ.wt.length = n := ⟨_, rfl⟩
  have Hn := Lib.hid hn
  rw [hn] at hlen
  clear h hE0 hbx hr ho hq hn
  unfold Ms.val
  go_enter Try.func13, Try.ntmps13
  generalize hW : w.alloc (.cells #[.int .i64 m.f, .int .u32 m.c, .string m.d] 41) = W at *
  go_upto_region 3 with (go_at_call 26; refine (isNil_at H.out).mono ?_; rintro e w' ⟨rfl, rfl⟩)
  refine wp_region_line [(0,1),(1,1),(2,0)] (by kernel_rfl) (by kernel_rfl) (Ext w') (fun _ _ h k => h.trans k) (Ext.refl _) ?_
  refine Fx.look rfl rfl (op_load_Ms' (m := m) dl d0 d1 d2 rfl) (by simp only [List.set_cons_zero, List.set_cons_succ]; rfl) ?_
  refine Fx.call1 (v := .bool r) (args := #[m.val]) rfl rfl (fun _ => by first | (go_simp; done) | (go_simp; rfl)) (fun w'' hC => (right_ids m w'').mono (fun e w3 hh => by rw [Hr.out] at hh; exact hh)) (by simp only [List.set_cons_zero, List.set_cons_succ]; rfl) ?_
  first
    | refine Fx.skip rfl rfl (by simp only [List.set_cons_zero, List.set_cons_succ]; rfl) ?_
    | (with_reducible refine Fx.lab0 ?_
       first
         | refine Fx.moveT rfl rfl rfl (by simp only [List.set_cons_zero, List.set_cons_succ]; rfl) ?_
         | refine Fx.assignT rfl rfl rfl (by simp only [List.set_cons_zero, List.set_cons_succ]; rfl) ?_
         | refine Fx.pure_ rfl rfl (fun _ => by go_simp; first | done | rfl) (by simp only [List.set_cons_zero, List.set_cons_succ]; rfl) ?_)
    | (with_reducible refine Fx.lab1 ?_
       refine Fx.look rfl rfl (fun w' hC => by obtain ⟨hc, hf, hl⟩ := Ext.cells hC; go_simp; rfl) (by simp only [List.set_cons_zero, List.set_cons_succ]; rfl) ?_)
  refine Fx.done (fun w1 hC => ?_)
  obtain ⟨xc, xf, xl⟩ := hC.cells
  replace d0 := (xc _ _ dl).trans d0
  replace d1 := (xc _ _ dl).trans d1
  replace d2 := (xc _ _ dl).trans d2
  replace dl := xl _ dl
  have H1 := Lib.hid (H.out.ext hC)
  have HE1 := Lib.hid (HE.out.trans hC)
  clear xc xf xl hC H HE
  cases r with
  | false =>
    go_wp2
    go_ret
    refine ⟨by unfold addE; rw [Hr.out]; rfl, ?_, HE1.out.mods _⟩
    have : addS σ m = σ := by unfold addS; rw [Hr.out]; rfl
    rw [this]; exact H1.out
  | true =>
    obtain ⟨c0, c1, lb⟩ := H1.out.cells
    go_upto_region 5 with fail
    refine wp_region_plan [(0,0),(1,0),(2,0),(3,1),(4,0),(5,1),(6,1),(7,0),(8,0),(9,0),(10,2),(11,3),(12,0)] (by kernel_rfl) (by kernel_rfl) (by kernel_rfl) (Ext w1) (fun _ _ h k => h.trans k) (Ext.drawn _ _) ?_
    iterate 5
      first
        | refine Fx.skip rfl rfl (by simp only [List.set_cons_zero, List.set_cons_succ]; rfl) ?_
        | (with_reducible refine Fx.lab0 ?_
           first
             | refine Fx.moveT rfl rfl rfl (by simp only [List.set_cons_zero, List.set_cons_succ]; rfl) ?_
             | refine Fx.assignT rfl rfl rfl (by simp only [List.set_cons_zero, List.set_cons_succ]; rfl) ?_
             | refine Fx.pure_ rfl rfl (fun _ => by go_simp; first | done | rfl) (by simp only [List.set_cons_zero, List.set_cons_succ]; rfl) ?_)
        | (with_reducible refine Fx.lab1 ?_
           refine Fx.look rfl rfl (fun w' hC => by obtain ⟨hc, hf, hl⟩ := Ext.cells hC; go_simp; rfl) (by simp only [List.set_cons_zero, List.set_cons_succ]; rfl) ?_)
    refine Fx.look rfl rfl (op_load_Id' dl d0 d1 rfl) (by simp only [List.set_cons_zero, List.set_cons_succ]; rfl) ?_
    refine Fx.look (v := .tuple #[(o.getD ms0).val, .bool o.isSome]) rfl rfl (fun w' hC => by rw [op_look (k := (m.f, m.c)) (H1.out.wt.ext hC) keysId Try.underlying56 (Try.zeroValue61 w') rfl rfl, Ho.out, lookVal]; rfl) (by simp only [List.set_cons_zero, List.set_cons_succ]; rfl) ?_
    iterate 3
      first
        | refine Fx.skip rfl rfl (by simp only [List.set_cons_zero, List.set_cons_succ]; rfl) ?_
        | (with_reducible refine Fx.lab0 ?_
           first
             | refine Fx.moveT rfl rfl rfl (by simp only [List.set_cons_zero, List.set_cons_succ]; rfl) ?_
             | refine Fx.assignT rfl rfl rfl (by simp only [List.set_cons_zero, List.set_cons_succ]; rfl) ?_
             | refine Fx.pure_ rfl rfl (fun _ => by go_simp; first | done | rfl) (by simp only [List.set_cons_zero, List.set_cons_succ]; rfl) ?_)
        | (with_reducible refine Fx.lab1 ?_
           refine Fx.look rfl rfl (fun w' hC => by obtain ⟨hc, hf, hl⟩ := Ext.cells hC; go_simp; rfl) (by simp only [List.set_cons_zero, List.set_cons_succ]; rfl) ?_)
    refine Fx.mkPtr (fun B w' => w1.heap.size ≤ B ∧ Obj_ w' B 3 (msF ms0)) (fun B _ _ h k => ⟨h.1, h.2.ext k⟩) rfl rfl (fun w' hC => stepAt_alloc_Pd hC) (fun B => ?_)
    simp only [List.set_cons_zero, List.set_cons_succ]
    refine Fx.eff0 (MsPre w1 B (o.getD ms0)) (msPre_stable _ _ _) rfl rfl (fun w' hC => stepAt_mono (stepAt_store_Pd hC.1 hC.2.1 hC.2.2 (o.getD ms0) rfl rfl) (fun _ w'' h => ⟨h.1, hC.2.1, h.2⟩)) ?_
    first
      | refine Fx.skip rfl rfl (by simp only [List.set_cons_zero, List.set_cons_succ]; rfl) ?_
      | (with_reducible refine Fx.lab0 ?_
         first
           | refine Fx.moveT rfl rfl rfl (by simp only [List.set_cons_zero, List.set_cons_succ]; rfl) ?_
           | refine Fx.assignT rfl rfl rfl (by simp only [List.set_cons_zero, List.set_cons_succ]; rfl) ?_
           | refine Fx.pure_ rfl rfl (fun _ => by go_simp; first | done | rfl) (by simp only [List.set_cons_zero, List.set_cons_succ]; rfl) ?_)
      | (with_reducible refine Fx.lab1 ?_
         refine Fx.look rfl rfl (fun w' hC => by obtain ⟨hc, hf, hl⟩ := Ext.cells hC; go_simp; rfl) (by simp only [List.set_cons_zero, List.set_cons_succ]; rfl) ?_)
    refine Fx.done (fun w2 hC => ?_)
    obtain ⟨hC1, -, -⟩ := hC
    obtain ⟨xc, xf, xl⟩ := hC1.cells
    replace d0 := (xc _ _ dl).trans d0
    replace d1 := (xc _ _ dl).trans d1
    replace d2 := (xc _ _ dl).trans d2
    replace dl := xl _ dl
    have H2 := Lib.hid (H1.out.ext hC1)
    have HE2 := Lib.hid (HE1.out.trans hC1)
    clear xc xf xl hC1 c0 c1 lb
    obtain ⟨z, hz⟩ : ∃ z, o.isSome = z := ⟨_, rfl⟩
    have Hz := Lib.hid hz
    rw [hz]
    have hhas : hasP σ (keyM m) = (z || q) := by unfold hasP keyM; rw [Ho.out, Hq.out, ← hz]
    have HHas := Lib.hid hhas
    clear hz hhas
    cases z with
    | true =>
      go_wp2
      go_ret
      refine ⟨by unfold addE; rw [Hr.out, HHas.out]; rfl, ?_, HE2.out.mods _⟩
      have : addS σ m = σ := by unfold addS; rw [Hr.out, HHas.out]; rfl
      rw [this]; exact H2.out
    | false =>
      go_upto_region 6 with fail
      refine wp_region_line [(0,0),(1,0),(2,0),(3,0),(4,1),(5,1),(6,0)] (by kernel_rfl) (by kernel_rfl) (Ext w2) (fun _ _ h k => h.trans k) (Ext.refl _) ?_
      iterate 4
        first
          | refine Fx.skip rfl rfl (by simp only [List.set_cons_zero, List.set_cons_succ]; rfl) ?_
          | (with_reducible refine Fx.lab0 ?_
             first
               | refine Fx.moveT rfl rfl rfl (by simp only [List.set_cons_zero, List.set_cons_succ]; rfl) ?_
               | refine Fx.assignT rfl rfl rfl (by simp only [List.set_cons_zero, List.set_cons_succ]; rfl) ?_
               | refine Fx.pure_ rfl rfl (fun _ => by go_simp; first | done | rfl) (by simp only [List.set_cons_zero, List.set_cons_succ]; rfl) ?_)
          | (with_reducible refine Fx.lab1 ?_
             refine Fx.look rfl rfl (fun w' hC => by obtain ⟨hc, hf, hl⟩ := Ext.cells hC; go_simp; rfl) (by simp only [List.set_cons_zero, List.set_cons_succ]; rfl) ?_)
      refine Fx.look rfl rfl (op_load_Id' dl d0 d1 rfl) (by simp only [List.set_cons_zero, List.set_cons_succ]; rfl) ?_
      refine Fx.call1 (v := .bool q) (args := #[.pointer (some ⟨b, 0, none⟩), .agg #[.int .i64 m.f, .int .u32 m.c]]) rfl rfl (fun _ => by first | (go_simp; done) | (go_simp; rfl)) (fun w' hC => (is_at (H2.out.ext hC) m.f m.c).mono (fun e w'' hh => by rw [Hq.out] at hh; exact hh)) (by simp only [List.set_cons_zero, List.set_cons_succ]; rfl) ?_
      first
        | refine Fx.skip rfl rfl (by simp only [List.set_cons_zero, List.set_cons_succ]; rfl) ?_
        | (with_reducible refine Fx.lab0 ?_
           first
             | refine Fx.moveT rfl rfl rfl (by simp only [List.set_cons_zero, List.set_cons_succ]; rfl) ?_
             | refine Fx.assignT rfl rfl rfl (by simp only [List.set_cons_zero, List.set_cons_succ]; rfl) ?_
             | refine Fx.pure_ rfl rfl (fun _ => by go_simp; first | done | rfl) (by simp only [List.set_cons_zero, List.set_cons_succ]; rfl) ?_)
        | (with_reducible refine Fx.lab1 ?_
           refine Fx.look rfl rfl (fun w' hC => by obtain ⟨hc, hf, hl⟩ := Ext.cells hC; go_simp; rfl) (by simp only [List.set_cons_zero, List.set_cons_succ]; rfl) ?_)
      refine Fx.done (fun w3 hC => ?_)
      obtain ⟨xc, xf, xl⟩ := hC.cells
      replace d0 := (xc _ _ dl).trans d0
      replace d1 := (xc _ _ dl).trans d1
      replace d2 := (xc _ _ dl).trans d2
      replace dl := xl _ dl
      have H3 := Lib.hid (H2.out.ext hC)
      have HE3 := Lib.hid (HE2.out.trans hC)
      clear xc xf xl hC
      cases q with
      | true =>
        go_wp2
        go_ret
        refine ⟨by unfold addE; rw [Hr.out, HHas.out]; rfl, ?_, HE3.out.mods _⟩
        have : addS σ m = σ := by unfold addS; rw [Hr.out, HHas.out]; rfl
        rw [this]; exact H3.out
      | false =>
        obtain ⟨c0, c1, lb⟩ := H3.out.cells
        have hln : ∀ w', Ext w3 w' → (Builtin.len_ #[56] 3 #[.map (some mw)]).run Try.prog w' = .ok (.int .i64 n) w' := fun w' hC => by
          have := (H3.out.wt.ext hC).len Try.underlying56 (ty := 3)
          rwa [Hn.out] at this
        have hln3 := hln w3 (Ext.refl _)
        clear hln
        by_cases h1000 : 1000 ≤ n
        · have hb : decide (n < 1000) = false := by simp; omega
          have hb2 : decide ((n : Int) < 1000) = false := by simp; omega
          have hb3 : decide ((1000 : Int) ≤ (n : Int)) = true := by simp; omega
          have H1000 := Lib.hid h1000
          go_wp2
          go_ret
          refine ⟨by unfold addE; rw [Hr.out, HHas.out, Hn.out]; simp [H1000.out], ?_, HE3.out.mods _⟩
          have : addS σ m = σ := by unfold addS; rw [Hr.out, HHas.out, Hn.out]; simp [H1000.out]
          rw [this]; exact H3.out
        · have hb2 : decide ((n : Int) < 1000) = true := by simp; omega
          have hb3 : decide ((1000 : Int) ≤ (n : Int)) = false := by simp; omega
          have H1000 := Lib.hid h1000
          clear h1000 hlen
          go_upto_region 10 with fail
          refine wp_region_plan [(0,0),(1,0),(2,0),(3,1),(4,0),(5,1),(6,1),(7,0),(8,3)] (by kernel_rfl) (by kernel_rfl) (by kernel_rfl) (Ext w3) (fun _ _ h k => h.trans k) (Ext.drawn _ _) ?_
          iterate 5
            first
              | refine Fx.skip rfl rfl (by simp only [List.set_cons_zero, List.set_cons_succ]; rfl) ?_
              | (with_reducible refine Fx.lab0 ?_
                 first
                   | refine Fx.moveT rfl rfl rfl (by simp only [List.set_cons_zero, List.set_cons_succ]; rfl) ?_
                   | refine Fx.assignT rfl rfl rfl (by simp only [List.set_cons_zero, List.set_cons_succ]; rfl) ?_
                   | refine Fx.pure_ rfl rfl (fun _ => by go_simp; first | done | rfl) (by simp only [List.set_cons_zero, List.set_cons_succ]; rfl) ?_)
              | (with_reducible refine Fx.lab1 ?_
                 refine Fx.look rfl rfl (fun w' hC => by obtain ⟨hc, hf, hl⟩ := Ext.cells hC; go_simp; rfl) (by simp only [List.set_cons_zero, List.set_cons_succ]; rfl) ?_)
          refine Fx.look rfl rfl (op_load_Id' dl d0 d1 rfl) (by simp only [List.set_cons_zero, List.set_cons_succ]; rfl) ?_
          refine Fx.look rfl rfl (op_load_Ms' (m := m) dl d0 d1 d2 rfl) (by simp only [List.set_cons_zero, List.set_cons_succ]; rfl) ?_
          refine Fx.pure_ (v := m.val) rfl rfl (fun _ => by unfold Ms.val; first | (go_simp; done) | (go_simp; rfl)) (by simp only [List.set_cons_zero, List.set_cons_succ]; rfl) ?_
          refine Fx.eff0 (fun w' => MapIs w' mw idV Ms.val (kput (m.f, m.c) m σ.wt) ∧ Mods (· = mw) w3 w') (fun _ _ h k => ⟨h.1.ext k, h.2.then_ k⟩) rfl rfl (fun w' hC => ?_) ?_
          · refine stepAt_mono (stepAt_upd (k := (m.f, m.c)) (v := m) (H3.out.wt.ext hC) keysId Try.underlying56 rfl rfl rfl) (fun _ w'' hh => ⟨hh.1, hh.2.after hC⟩)
          refine Fx.done (fun w4 hC => ?_)
          have H4 := Lib.hid hC
          clear hC c0 c1 lb d0 d1 d2 hln3
          go_wp2
          go_ret
          refine ⟨by unfold addE; rw [Hr.out, HHas.out, Hn.out]; simp [H1000.out], ?_, ?_⟩
          · have : addS σ m = { σ with wt := kput (m.f, m.c) m σ.wt } := by unfold addS; rw [Hr.out, HHas.out, Hn.out]; simp [H1000.out]; rfl
            rw [this]; exact H3.out.putW H4.out.1 H4.out.2
          · exact (HE3.out.mods _).trans H4.out.2 (fun x _ h => .inr (.inl h))
end Go.Proofs.Ytkkcdoajdhbofaa
