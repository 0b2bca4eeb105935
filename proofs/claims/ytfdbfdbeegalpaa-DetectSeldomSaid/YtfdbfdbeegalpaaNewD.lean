/-
  detect.New.
-/
import Derived.Test.YtfdbfdbeegalpaaOpsD
namespace Go.Proofs.Ytfdbfdbeegalpaa
open Go.RowKit
attribute [local go_sem] Oper.semAt_some

def btV (first most step : Int) : Value := .agg #[.int .u64 first, .int .u64 most, .int .u64 step]
def btF (first most step : Int) : Nat → Value := fun i => [Value.int .u64 first, .int .u64 most, .int .u64 step].getD i undef
def NewR (self n first most step now : Int) (w : World) (e : Ending) (w' : World) : Prop :=
  (newB self n first most step now = false ∧ e = .returned (.tuple #[.pointer none, .int .i64 70]) ∧ Ext w w') ∨
  (newB self n first most step now = true ∧ ∃ b mb, e = .returned (.tuple #[.pointer (some ⟨b, 0, none⟩), .int .i64 0]) ∧ DetAt w' b mb (newS self.toNat n.toNat first most step now) ∧ Ext w w' ∧ w.heap.size ≤ b ∧ w.heap.size ≤ mb)
theorem newB_parts {self n first most step now : Int} (hm : 0 ≤ most) (hs : 0 ≤ step) (hw : 0 ≤ now) :
    newB self n first most step now = (inB 1 16 [n] && (inB 0 (n - 1) [self] && (inB 0 1152921504606846976 [most, step, now] && inB 1 most [first]))) := by
  unfold newB inB maxT
  rw [Bool.eq_iff_iff]
  simp only [List.all_cons, List.all_nil, Bool.and_true, Bool.and_eq_true, decide_eq_true_eq]
  constructor
  · intro h; omega
  · intro h; omega

set_option maxRecDepth 100000 in
set_option maxHeartbeats 3200000 in
theorem new_at (w : World) (self n first most step now : Int) (hm : 0 ≤ most) (hs : 0 ≤ step) (hw : 0 ≤ now) (hn0 : -9223372036854775808 ≤ n ∧ n ≤ 9223372036854775807) :
    Calls Try.prog 14 #[.int .i64 self, .int .i64 n, btV first most step, .int .u64 now] w (NewR self n first most step now w) := by
  have hbox := Obj_.new w 35 #[.int .u64 first, .int .u64 most, .int .u64 step] (btF first most step) (by intro i hi; simp at hi; match i, hi with | 0, _ => rfl | 1, _ => rfl | 2, _ => rfl)
  have hE0 := Ext.alloc w (.cells #[.int .u64 first, .int .u64 most, .int .u64 step] 35)
  have hB := newB_parts (self := self) (n := n) (first := first) hm hs hw
  obtain ⟨r1, h1⟩ : ∃ r, inB 1 16 [n] = r := ⟨_, rfl⟩
  obtain ⟨r2, h2⟩ : ∃ r, inB 0 (n - 1) [self] = r := ⟨_, rfl⟩
  obtain ⟨r3, h3⟩ : ∃ r, inB 0 1152921504606846976 [most, step, now] = r := ⟨_, rfl⟩
  obtain ⟨r4, h4⟩ : ∃ r, inB 1 most [first] = r := ⟨_, rfl⟩
  rw [h1, h2, h3, h4] at hB
  have hsub : r1 = true → IntKind.i64.wrap (n - 1) = n - 1 := fun e => by
    rw [e, inB_one] at h1; simp at h1
    exact IntWalk.i64_in _ ⟨by omega, by omega⟩
  have hnn : r1 = true → 1 ≤ n ∧ n ≤ 16 := fun e => by rw [e, inB_one] at h1; simpa using h1
  have R1 := Lib.hid h1
  have R2 := Lib.hid h2
  have R3 := Lib.hid h3
  have R4 := Lib.hid h4
  have HB := Lib.hid hB
  have HBox := Lib.hid hbox
  have HE := Lib.hid hE0
  have c0 := hbox.cell 0 (by simp)
  have c1 := hbox.cell 1 (by simp)
  have c2 := hbox.cell 2 (by simp)
  have cl := hbox.lt
  simp only [btF, List.getD_cons_zero, List.getD_cons_succ] at c0 c1 c2
  have Hnn := Lib.hid hnn
  have Hsub := Lib.hid hsub
  clear hB h1 h2 h3 h4 hbox hE0 hm hs hw hn0 hnn hsub
  have hval : btV first most step = .agg #[.int .u64 first, .int .u64 most, .int .u64 step] := rfl
  rw [hval]
  clear hval
  go_enter Try.func14, Try.ntmps14
  generalize hW : w.alloc (.cells #[.int .u64 first, .int .u64 most, .int .u64 step] 35) = W at *
  cases r1 with
  | false =>
    go_upto_region 1 with fail
    refine wp_region_line [(0,0),(1,2),(2,1),(3,0),(4,0),(5,0),(6,0),(7,0),(8,2),(9,1),(10,0),(11,0)] (by kernel_rfl) (by kernel_rfl) (Ext W) (fun _ _ h k => h.trans k) (Ext.refl _) ?_
    first
      | refine Fx.skip rfl rfl (by simp only [List.set_cons_zero, List.set_cons_succ]; rfl) ?_
      | (with_reducible refine Fx.lab0 ?_
         first
           | refine Fx.moveT rfl rfl rfl (by simp only [List.set_cons_zero, List.set_cons_succ]; rfl) ?_
           | refine Fx.assignT rfl rfl rfl (by simp only [List.set_cons_zero, List.set_cons_succ]; rfl) ?_
           | refine Fx.pure_ rfl rfl (fun _ => by go_simp; first | done | rfl) (by simp only [List.set_cons_zero, List.set_cons_succ]; rfl) ?_)
      | (with_reducible refine Fx.lab1 ?_
         refine Fx.look rfl rfl (fun w' hC => by obtain ⟨hc, hf, hl⟩ := Ext.cells hC; go_simp; rfl) (by simp only [List.set_cons_zero, List.set_cons_succ]; rfl) ?_)
    refine Fx.mkSl 1 1 (fun B w' => IL .i64 w' (.slice (some ⟨B, 0, none⟩) 1 1) [n]) (fun B _ _ h k => h.ext k) rfl rfl (fun w' hC => stepAt_litI1 hC n rfl) (fun B => ?_)
    simp only [List.set_cons_zero, List.set_cons_succ]
    refine Fx.call1 (v := .bool false) (args := #[.int .i64 1, .int .i64 16, .slice (some ⟨B, 0, none⟩) 1 1]) rfl rfl (fun _ => by first | (go_simp; done) | (go_simp; rfl)) (fun w' hC => (withinI_at w' _ _ _ [n] hC.2 (by simp)).mono (fun e w'' hh => by rw [R1.out] at hh; exact ⟨hh.1, by rw [hh.2]; exact Ext.refl _⟩)) (by simp only [List.set_cons_zero, List.set_cons_succ]; rfl) ?_
    iterate 9
      first
        | refine Fx.skip rfl rfl (by simp only [List.set_cons_zero, List.set_cons_succ]; rfl) ?_
        | (with_reducible refine Fx.lab0 ?_
           first
             | refine Fx.moveT rfl rfl rfl (by simp only [List.set_cons_zero, List.set_cons_succ]; rfl) ?_
             | refine Fx.assignT rfl rfl rfl (by simp only [List.set_cons_zero, List.set_cons_succ]; rfl) ?_
             | refine Fx.pure_ rfl rfl (fun _ => by go_simp; first | done | rfl) (by simp only [List.set_cons_zero, List.set_cons_succ]; rfl) ?_)
        | (with_reducible refine Fx.lab1 ?_
           refine Fx.look rfl rfl (fun w' hC => by obtain ⟨hc, hf, hl⟩ := Ext.cells hC; go_simp; rfl) (by simp only [List.set_cons_zero, List.set_cons_succ]; rfl) ?_)
    refine Fx.done (fun w1 hC => ?_)
    have HC := Lib.hid (HE.out.trans hC.1)
    clear hC c0 c1 c2
    go_wp2
    go_ret2
    exact .inl ⟨by rw [HB.out]; rfl, rfl, HC.out⟩
  | true =>
    have hsub := Hsub.out rfl
    obtain ⟨hn1, hn16⟩ := Hnn.out rfl
    go_upto_region 1 with fail
    refine wp_region_line [(0,0),(1,2),(2,1),(3,0),(4,0),(5,0),(6,0),(7,0),(8,2),(9,1),(10,0),(11,0)] (by kernel_rfl) (by kernel_rfl) (Ext W) (fun _ _ h k => h.trans k) (Ext.refl _) ?_
    first
      | refine Fx.skip rfl rfl (by simp only [List.set_cons_zero, List.set_cons_succ]; rfl) ?_
      | (with_reducible refine Fx.lab0 ?_
         first
           | refine Fx.moveT rfl rfl rfl (by simp only [List.set_cons_zero, List.set_cons_succ]; rfl) ?_
           | refine Fx.assignT rfl rfl rfl (by simp only [List.set_cons_zero, List.set_cons_succ]; rfl) ?_
           | refine Fx.pure_ rfl rfl (fun _ => by go_simp; first | done | rfl) (by simp only [List.set_cons_zero, List.set_cons_succ]; rfl) ?_)
      | (with_reducible refine Fx.lab1 ?_
         refine Fx.look rfl rfl (fun w' hC => by obtain ⟨hc, hf, hl⟩ := Ext.cells hC; go_simp; rfl) (by simp only [List.set_cons_zero, List.set_cons_succ]; rfl) ?_)
    refine Fx.mkSl 1 1 (fun B w' => IL .i64 w' (.slice (some ⟨B, 0, none⟩) 1 1) [n]) (fun B _ _ h k => h.ext k) rfl rfl (fun w' hC => stepAt_litI1 hC n rfl) (fun B => ?_)
    simp only [List.set_cons_zero, List.set_cons_succ]
    refine Fx.call1 (v := .bool true) (args := #[.int .i64 1, .int .i64 16, .slice (some ⟨B, 0, none⟩) 1 1]) rfl rfl (fun _ => by first | (go_simp; done) | (go_simp; rfl)) (fun w' hC => (withinI_at w' _ _ _ [n] hC.2 (by simp)).mono (fun e w'' hh => by rw [R1.out] at hh; exact ⟨hh.1, by rw [hh.2]; exact Ext.refl _⟩)) (by simp only [List.set_cons_zero, List.set_cons_succ]; rfl) ?_
    iterate 5
      first
        | refine Fx.skip rfl rfl (by simp only [List.set_cons_zero, List.set_cons_succ]; rfl) ?_
        | (with_reducible refine Fx.lab0 ?_
           first
             | refine Fx.moveT rfl rfl rfl (by simp only [List.set_cons_zero, List.set_cons_succ]; rfl) ?_
             | refine Fx.assignT rfl rfl rfl (by simp only [List.set_cons_zero, List.set_cons_succ]; rfl) ?_
             | refine Fx.pure_ rfl rfl (fun _ => by go_simp; first | done | rfl) (by simp only [List.set_cons_zero, List.set_cons_succ]; rfl) ?_)
        | (with_reducible refine Fx.lab1 ?_
           refine Fx.look rfl rfl (fun w' hC => by obtain ⟨hc, hf, hl⟩ := Ext.cells hC; go_simp; rfl) (by simp only [List.set_cons_zero, List.set_cons_succ]; rfl) ?_)
    refine Fx.mkSl 1 1 (fun B w' => IL .i64 w' (.slice (some ⟨B, 0, none⟩) 1 1) [self]) (fun B _ _ h k => h.ext k) rfl rfl (fun w' hC => stepAt_litI1 hC.1 self rfl) (fun B2 => ?_)
    simp only [List.set_cons_zero, List.set_cons_succ]
    refine Fx.call1 (v := .bool r2) (args := #[.int .i64 0, .int .i64 (n - 1), .slice (some ⟨B2, 0, none⟩) 1 1]) rfl rfl (fun _ => by first | (go_simp; done) | (go_simp; rfl)) (fun w' hC => (withinI_at w' _ _ _ [self] hC.2 (by simp)).mono (fun e w'' hh => by rw [R2.out] at hh; exact ⟨hh.1, by rw [hh.2]; exact Ext.refl _⟩)) (by simp only [List.set_cons_zero, List.set_cons_succ]; rfl) ?_
    iterate 2
      first
        | refine Fx.skip rfl rfl (by simp only [List.set_cons_zero, List.set_cons_succ]; rfl) ?_
        | (with_reducible refine Fx.lab0 ?_
           first
             | refine Fx.moveT rfl rfl rfl (by simp only [List.set_cons_zero, List.set_cons_succ]; rfl) ?_
             | refine Fx.assignT rfl rfl rfl (by simp only [List.set_cons_zero, List.set_cons_succ]; rfl) ?_
             | refine Fx.pure_ rfl rfl (fun _ => by go_simp; first | done | rfl) (by simp only [List.set_cons_zero, List.set_cons_succ]; rfl) ?_)
        | (with_reducible refine Fx.lab1 ?_
           refine Fx.look rfl rfl (fun w' hC => by obtain ⟨hc, hf, hl⟩ := Ext.cells hC; go_simp; rfl) (by simp only [List.set_cons_zero, List.set_cons_succ]; rfl) ?_)
    refine Fx.done (fun w1 hC => ?_)
    have HE1 := Lib.hid (HE.out.trans hC.1.1)
    obtain ⟨xc, xf, xl⟩ := hC.1.1.cells
    replace c0 := (xc _ _ cl).trans c0
    replace c1 := (xc _ _ cl).trans c1
    replace c2 := (xc _ _ cl).trans c2
    replace cl := xl _ cl
    clear xc xf xl hC
    cases r2 with
    | false =>
      go_wp2
      go_ret2
      exact .inl ⟨by rw [HB.out]; rfl, rfl, HE1.out⟩
    | true =>
      go_upto_region 3 with fail
      refine wp_region_line [(0,0),(1,1),(2,0),(3,1),(4,0),(5,2),(6,1),(7,0),(8,0),(9,0),(10,1),(11,0),(12,1),(13,2),(14,1),(15,0),(16,0)] (by kernel_rfl) (by kernel_rfl) (Ext w1) (fun _ _ h k => h.trans k) (Ext.refl _) ?_
      iterate 5
        first
          | refine Fx.skip rfl rfl (by simp only [List.set_cons_zero, List.set_cons_succ]; rfl) ?_
          | (with_reducible refine Fx.lab0 ?_
             first
               | refine Fx.moveT rfl rfl rfl (by simp only [List.set_cons_zero, List.set_cons_succ]; rfl) ?_
               | refine Fx.assignT rfl rfl rfl (by simp only [List.set_cons_zero, List.set_cons_succ]; rfl) ?_
               | refine Fx.pure_ rfl rfl (fun _ => by go_simp; first | done | rfl) (by simp only [List.set_cons_zero, List.set_cons_succ]; rfl) ?_)
          | (with_reducible refine Fx.lab1 ?_
             refine Fx.look rfl rfl (fun w' hC => by obtain ⟨hc, hf, hl⟩ := Ext.cells hC; go_simp; rfl) (by simp only [List.set_cons_zero, List.set_cons_succ]; rfl) ?_)
      refine Fx.mkSl 3 3 (fun B w' => IL .u64 w' (.slice (some ⟨B, 0, none⟩) 3 3) [most, step, now]) (fun B _ _ h k => h.ext k) rfl rfl (fun w' hC => stepAt_litU3 hC most step now rfl rfl rfl) (fun B3 => ?_)
      simp only [List.set_cons_zero, List.set_cons_succ]
      refine Fx.call1 (v := .bool r3) (args := #[.int .u64 0, .int .u64 1152921504606846976, .slice (some ⟨B3, 0, none⟩) 3 3]) rfl rfl (fun _ => by first | (go_simp; done) | (go_simp; rfl)) (fun w' hC => (withinU_at w' _ _ _ [most, step, now] hC.2 (by simp)).mono (fun e w'' hh => by rw [R3.out] at hh; exact ⟨hh.1, by rw [hh.2]; exact Ext.refl _⟩)) (by simp only [List.set_cons_zero, List.set_cons_succ]; rfl) ?_
      iterate 2
        first
          | refine Fx.skip rfl rfl (by simp only [List.set_cons_zero, List.set_cons_succ]; rfl) ?_
          | (with_reducible refine Fx.lab0 ?_
             first
               | refine Fx.moveT rfl rfl rfl (by simp only [List.set_cons_zero, List.set_cons_succ]; rfl) ?_
               | refine Fx.assignT rfl rfl rfl (by simp only [List.set_cons_zero, List.set_cons_succ]; rfl) ?_
               | refine Fx.pure_ rfl rfl (fun _ => by go_simp; first | done | rfl) (by simp only [List.set_cons_zero, List.set_cons_succ]; rfl) ?_)
          | (with_reducible refine Fx.lab1 ?_
             refine Fx.look rfl rfl (fun w' hC => by obtain ⟨hc, hf, hl⟩ := Ext.cells hC; go_simp; rfl) (by simp only [List.set_cons_zero, List.set_cons_succ]; rfl) ?_)
      cases r3 with
      | false =>
        iterate 8
          first
            | refine Fx.skip rfl rfl (by simp only [List.set_cons_zero, List.set_cons_succ]; rfl) ?_
            | (with_reducible refine Fx.lab0 ?_
               first
                 | refine Fx.moveT rfl rfl rfl (by simp only [List.set_cons_zero, List.set_cons_succ]; rfl) ?_
                 | refine Fx.assignT rfl rfl rfl (by simp only [List.set_cons_zero, List.set_cons_succ]; rfl) ?_
                 | refine Fx.pure_ rfl rfl (fun _ => by go_simp; first | done | rfl) (by simp only [List.set_cons_zero, List.set_cons_succ]; rfl) ?_)
            | (with_reducible refine Fx.lab1 ?_
               refine Fx.look rfl rfl (fun w' hC => by obtain ⟨hc, hf, hl⟩ := Ext.cells hC; go_simp; rfl) (by simp only [List.set_cons_zero, List.set_cons_succ]; rfl) ?_)
        refine Fx.done (fun w2 hC => ?_)
        have HE2 := Lib.hid (HE1.out.trans hC.1)
        clear hC c0 c1 c2
        go_wp2
        go_ret2
        exact .inl ⟨by rw [HB.out]; rfl, rfl, HE2.out⟩
      | true =>
        first
          | refine Fx.skip rfl rfl (by simp only [List.set_cons_zero, List.set_cons_succ]; rfl) ?_
          | (with_reducible refine Fx.lab0 ?_
             first
               | refine Fx.moveT rfl rfl rfl (by simp only [List.set_cons_zero, List.set_cons_succ]; rfl) ?_
               | refine Fx.assignT rfl rfl rfl (by simp only [List.set_cons_zero, List.set_cons_succ]; rfl) ?_
               | refine Fx.pure_ rfl rfl (fun _ => by go_simp; first | done | rfl) (by simp only [List.set_cons_zero, List.set_cons_succ]; rfl) ?_)
          | (with_reducible refine Fx.lab1 ?_
             refine Fx.look rfl rfl (fun w' hC => by obtain ⟨hc, hf, hl⟩ := Ext.cells hC; go_simp; rfl) (by simp only [List.set_cons_zero, List.set_cons_succ]; rfl) ?_)
        refine Fx.look rfl rfl (fun w' hC => by obtain ⟨hc, hf, hl⟩ := Ext.cells hC.1; go_simp; rfl) (by simp only [List.set_cons_zero, List.set_cons_succ]; rfl) ?_
        first
          | refine Fx.skip rfl rfl (by simp only [List.set_cons_zero, List.set_cons_succ]; rfl) ?_
          | (with_reducible refine Fx.lab0 ?_
             first
               | refine Fx.moveT rfl rfl rfl (by simp only [List.set_cons_zero, List.set_cons_succ]; rfl) ?_
               | refine Fx.assignT rfl rfl rfl (by simp only [List.set_cons_zero, List.set_cons_succ]; rfl) ?_
               | refine Fx.pure_ rfl rfl (fun _ => by go_simp; first | done | rfl) (by simp only [List.set_cons_zero, List.set_cons_succ]; rfl) ?_)
          | (with_reducible refine Fx.lab1 ?_
             refine Fx.look rfl rfl (fun w' hC => by obtain ⟨hc, hf, hl⟩ := Ext.cells hC; go_simp; rfl) (by simp only [List.set_cons_zero, List.set_cons_succ]; rfl) ?_)
        refine Fx.look rfl rfl (fun w' hC => by obtain ⟨hc, hf, hl⟩ := Ext.cells hC.1; go_simp; rfl) (by simp only [List.set_cons_zero, List.set_cons_succ]; rfl) ?_
        refine Fx.mkSl 1 1 (fun B w' => IL .u64 w' (.slice (some ⟨B, 0, none⟩) 1 1) [first]) (fun B _ _ h k => h.ext k) rfl rfl (fun w' hC => stepAt_litU1 hC.1 first rfl) (fun B4 => ?_)
        simp only [List.set_cons_zero, List.set_cons_succ]
        refine Fx.call1 (v := .bool r4) (args := #[.int .u64 1, .int .u64 most, .slice (some ⟨B4, 0, none⟩) 1 1]) rfl rfl (fun _ => by first | (go_simp; done) | (go_simp; rfl)) (fun w' hC => (withinU_at w' _ _ _ [first] hC.2 (by simp)).mono (fun e w'' hh => by rw [R4.out] at hh; exact ⟨hh.1, by rw [hh.2]; exact Ext.refl _⟩)) (by simp only [List.set_cons_zero, List.set_cons_succ]; rfl) ?_
        iterate 2
          first
            | refine Fx.skip rfl rfl (by simp only [List.set_cons_zero, List.set_cons_succ]; rfl) ?_
            | (with_reducible refine Fx.lab0 ?_
               first
                 | refine Fx.moveT rfl rfl rfl (by simp only [List.set_cons_zero, List.set_cons_succ]; rfl) ?_
                 | refine Fx.assignT rfl rfl rfl (by simp only [List.set_cons_zero, List.set_cons_succ]; rfl) ?_
                 | refine Fx.pure_ rfl rfl (fun _ => by go_simp; first | done | rfl) (by simp only [List.set_cons_zero, List.set_cons_succ]; rfl) ?_)
            | (with_reducible refine Fx.lab1 ?_
               refine Fx.look rfl rfl (fun w' hC => by obtain ⟨hc, hf, hl⟩ := Ext.cells hC; go_simp; rfl) (by simp only [List.set_cons_zero, List.set_cons_succ]; rfl) ?_)
        refine Fx.done (fun w2 hC => ?_)
        have HE2 := Lib.hid (HE1.out.trans hC.1.1)
        obtain ⟨xc, xf, xl⟩ := hC.1.1.cells
        replace c0 := (xc _ _ cl).trans c0
        replace c1 := (xc _ _ cl).trans c1
        replace c2 := (xc _ _ cl).trans c2
        replace cl := xl _ cl
        clear xc xf xl hC
        cases r4 with
        | false =>
          go_wp2
          go_ret2
          exact .inl ⟨by rw [HB.out]; rfl, rfl, HE2.out⟩
        | true =>
          have hself : 0 ≤ self ∧ self ≤ n - 1 := by have := R2.out; rw [inB_one] at this; simpa using this
          obtain ⟨sn, rfl⟩ : ∃ sn : Nat, self = sn := ⟨self.toNat, by omega⟩
          obtain ⟨N, rfl⟩ : ∃ N : Nat, n = N := ⟨n.toNat, by omega⟩
          have hmm := @run_makeMap Try.prog
          have o7 := Obj_.new (w2.alloc (.map #[] 0)) 51 #[.int .i64 sn, .int .i64 N, .int .u64 first, .int .u64 most, .int .u64 step, .int .u64 now, .map (some w2.heap.size)]
            (dF (newS sn N first most step now) w2.heap.size) (fun i hi => by
              simp at hi
              match i, hi with
              | 0, _ => rfl
              | 1, _ => rfl
              | 2, _ => rfl
              | 3, _ => rfl
              | 4, _ => rfl
              | 5, _ => rfl
              | 6, _ => rfl)
          have omap : MapIs (w2.alloc (.map #[] 0)) w2.heap.size (Value.int .i64) Nd.val (asc 0 (fun _ => (⟨now, first, false⟩ : Nd))) := MapIs.made (ek := Value.int .i64) (ev := Nd.val) w2
          have e1 := Ext.alloc w2 (.map #[] 0)
          have e2 := Ext.alloc (w2.alloc (.map #[] 0)) (.cells #[.int .i64 sn, .int .i64 N, .int .u64 first, .int .u64 most, .int .u64 step, .int .u64 now, .map (some w2.heap.size)] 51)
          have hs3 : (w2.alloc (.map #[] 0)).heap.size = w2.heap.size + 1 := by simp
          rw [hs3] at o7
          have O7 := Lib.hid o7
          have OM := Lib.hid (omap.ext e2)
          have E12 := Lib.hid (e1.trans e2)
          have HS2 := Lib.hid HE2.out.size
          have hc2 := HBox.out
          have hbl0 := hc2.lt
          have HBX := Lib.hid (show w.heap.size < w2.heap.size by have := HBox.out.lt; have h9 := HE2.out.size; have h8 := HE1.out.size; have : w.heap.size < W.heap.size := HBox.out.lt; have := cl; omega)
          clear o7 omap e1 e2 hs3 hc2 hbl0
          go_wp2
          generalize hw3 : (w2.alloc (.map #[] 0)).alloc (.cells #[.int .i64 sn, .int .i64 N, .int .u64 first, .int .u64 most, .int .u64 step, .int .u64 now, .map (some w2.heap.size)] 51) = w3 at *
          go_loopw [49] (fun q wr => ∃ k : Nat, k ≤ N ∧ q = .int .i64 k ∧ Hid (Obj_ wr (w2.heap.size + 1) 7 (dF (newS sn N first most step now) w2.heap.size)) ∧ Hid (MapIs wr w2.heap.size (Value.int .i64) Nd.val (asc k (fun _ => (⟨now, first, false⟩ : Nd)))) ∧ Hid (Ext w2 wr)) (fun q _ => N - (intOf q).toNat)
          case atStart => exact ⟨0, Nat.zero_le _, rfl, O7, OM, E12⟩
          case round =>
            obtain ⟨k, hk, rfl, hO, hMp, hEr⟩ := hrel
            by_cases hlt : k < N
            · have hwk : IntKind.i64.wrap ((k : Int) + 1) = (k : Int) + 1 := IntWalk.i64_in _ ⟨by omega, by omega⟩
              obtain ⟨xc, xf, xl⟩ := hEr.out.cells
              have b0 := (xc _ _ cl).trans c0
              have bl := xl _ cl
              have d6 := hO.out.cell 6 (by omega)
              have dl := hO.out.lt
              clear xc xf xl
              go_upto_region 9 with fail
              refine wp_region_plan [(0,0),(1,0),(2,0),(3,1),(4,0),(5,0),(6,0),(7,1),(8,0),(9,3)] (by kernel_rfl) (by kernel_rfl) (by kernel_rfl) (Ext wr) (fun _ _ h k => h.trans k) (Ext.drawn _ _) ?_
              iterate 3
                first
                  | refine Fx.skip rfl rfl (by simp only [List.set_cons_zero, List.set_cons_succ]; rfl) ?_
                  | (with_reducible refine Fx.lab0 ?_
                     first
                       | refine Fx.moveT rfl rfl rfl (by simp only [List.set_cons_zero, List.set_cons_succ]; rfl) ?_
                       | refine Fx.assignT rfl rfl rfl (by simp only [List.set_cons_zero, List.set_cons_succ]; rfl) ?_
                       | refine Fx.pure_ rfl rfl (fun _ => by go_simp; first | done | rfl) (by simp only [List.set_cons_zero, List.set_cons_succ]; rfl) ?_)
                  | (with_reducible refine Fx.lab1 ?_
                     refine Fx.look rfl rfl (fun w' hC => by obtain ⟨hc, hf, hl⟩ := Ext.cells hC; go_simp; rfl) (by simp only [List.set_cons_zero, List.set_cons_succ]; rfl) ?_)
              refine Fx.look (v := .map (some w2.heap.size)) rfl rfl (fun w' hC => by obtain ⟨hc, hf, hl⟩ := Ext.cells hC; have e1 := (hc _ 6 dl).trans d6; clear hc hf hl d6; simp only [dF] at e1; go_simp) (by simp only [List.set_cons_zero, List.set_cons_succ]; rfl) ?_
              iterate 5
                first
                  | refine Fx.skip rfl rfl (by simp only [List.set_cons_zero, List.set_cons_succ]; rfl) ?_
                  | (with_reducible refine Fx.lab0 ?_
                     first
                       | refine Fx.moveT rfl rfl rfl (by simp only [List.set_cons_zero, List.set_cons_succ]; rfl) ?_
                       | refine Fx.assignT rfl rfl rfl (by simp only [List.set_cons_zero, List.set_cons_succ]; rfl) ?_
                       | refine Fx.pure_ rfl rfl (fun _ => by go_simp; first | done | rfl) (by simp only [List.set_cons_zero, List.set_cons_succ]; rfl) ?_)
                  | (with_reducible refine Fx.lab1 ?_
                     refine Fx.look rfl rfl (fun w' hC => by obtain ⟨hc, hf, hl⟩ := Ext.cells hC; go_simp; rfl) (by simp only [List.set_cons_zero, List.set_cons_succ]; rfl) ?_)
              refine Fx.eff0 (fun w' => MapIs w' w2.heap.size (Value.int .i64) Nd.val (kput (k : Int) (⟨now, first, false⟩ : Nd) (asc k (fun _ => (⟨now, first, false⟩ : Nd)))) ∧ Mods (· = w2.heap.size) wr w') (fun _ _ h k => ⟨h.1.ext k, h.2.then_ k⟩) rfl rfl (fun w' hC => ?_) ?_
              · exact stepAt_mono (stepAt_upd (k := (k : Int)) (v := (⟨now, first, false⟩ : Nd)) (hMp.out.ext hC) keysInt Try.underlying49 rfl rfl rfl) (fun _ w'' hh => ⟨hh.1, hh.2.after hC⟩)
              refine Fx.done (fun w4 hC => ?_)
              have HM4 := Lib.hid hC.1
              have HO4 := Lib.hid (hO.out.mods hC.2 (by omega))
              have HE4 := Lib.hid (((hEr.out.mods (· = w2.heap.size)).trans hC.2 (fun _ _ h => h)).ext_of (fun x hx e => by omega))
              clear hC b0 bl d6 dl
              go_wp2
              go_roundw
              case rel => exact ⟨k + 1, by omega, by go_num, HO4, Lib.hid (by
                have h := HM4.out
                rw [kput_asc_new] at h
                have e : updI (fun _ => (⟨now, first, false⟩ : Nd)) k ⟨now, first, false⟩ = fun _ => (⟨now, first, false⟩ : Nd) := by funext j; unfold updI; split <;> rfl
                rwa [e] at h), HE4⟩
              case measure => simp [intOf]; omega
            · have hkN : k = N := by omega
              subst hkN
              clear c0 c1 c2
              go_wp2
              go_ret2
              refine .inr ⟨by rw [HB.out]; rfl, w2.heap.size + 1, w2.heap.size, rfl, ⟨?_, ?_, by omega⟩, HE2.out.trans hEr.out, by have := HBX.out; omega, by have := HBX.out; omega⟩
              · simpa using hO.out
              · simpa [newS] using hMp.out
end Go.Proofs.Ytfdbfdbeegalpaa
