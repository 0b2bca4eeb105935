/-
  detect.Detector: Hear.
-/
import Derived.Test.YtfdbfdbeegalpaaOpsD
import Derived.Lib.MinMax
namespace Go.Proofs.Ytfdbfdbeegalpaa
open Go.RowKit
attribute [local go_sem] Oper.semAt_some

theorem hear_nil (w : World) (node t : Int) : Calls Try.prog 10 #[.pointer none, .int .i64 node, .int .u64 t] w fun e w' => e = .returned (.int .i64 1) ∧ w' = w := by
  go_enter Try.func10, Try.ntmps10
  go_wp2
  go_ret
  exact ⟨rfl, rfl⟩
def HearR (b mb : Nat) (σ : DSt) (node t : Int) (w : World) (e : Ending) (w' : World) : Prop :=
  e = .returned (.int .i64 (hearE σ node t)) ∧ DetAt w' b mb (hearS σ node t) ∧ Mods (FD b mb) w w'
theorem DetAt.put {w w' : World} {b mb : Nat} {σ : DSt} {i : Nat} {x : Nd} (h : DetAt w b mb σ) (hi : i < σ.n) (hm : MapIs w' mb (Value.int .i64) Nd.val (kput (i : Int) x (asc σ.n σ.nd))) (he : Mods (· = mb) w w') : DetAt w' b mb { σ with nd := updI σ.nd i x } :=
  ⟨h.obj.mods he (fun e => h.d1 e), by rw [kput_asc σ.n σ.nd i x hi] at hm; exact hm, h.d1⟩

set_option maxRecDepth 100000 in
set_option maxHeartbeats 3200000 in
theorem hear_at {w : World} {b mb : Nat} {σ : DSt} (hM : DetAt w b mb σ) (hO : σ.Ok) (node t : Int) :
    Calls Try.prog 10 #[.pointer (some ⟨b, 0, none⟩), .int .i64 node, .int .u64 t] w (HearR b mb σ node t w) := by
  obtain ⟨c0, c1, c2, c3, c4, c5, c6, fb, lb, lm⟩ := hM.cells
  have HM := Lib.hid hM
  have HO := Lib.hid hO
  have hn1 := hO.n1
  have hn16 := hO.n16
  have hsub : IntKind.i64.wrap ((σ.n : Int) - 1) = (σ.n : Int) - 1 := IntWalk.i64_in _ ⟨by omega, by omega⟩
  obtain ⟨r, hr⟩ : ∃ r, nodeB σ node = r := ⟨_, rfl⟩
  have hin : inB 0 ((σ.n : Int) - 1) [node] = r := by rw [inB_one, ← hr]; rfl
  obtain ⟨p, hp⟩ : ∃ p, passB σ t = p := ⟨_, rfl⟩
  obtain ⟨pc, hpc⟩ : ∃ pc : Int, (if p = true then 0 else 70) = pc := ⟨_, rfl⟩
  have Hin := Lib.hid hin
  have Hr := Lib.hid hr
  have Hp := Lib.hid hp
  have Hpc := Lib.hid hpc
  clear hM hO c0 c2 c3 c4 c5 c6 fb lm hin hr hp hpc hn1
  go_enter Try.func10, Try.ntmps10
  go_upto_region 3 with fail
  refine wp_region_line [(0,0),(1,0),(2,0),(3,1),(4,0),(5,0),(6,2),(7,1),(8,0)] (by kernel_rfl) (by kernel_rfl) (Ext w) (fun _ _ h k => h.trans k) (Ext.refl _) ?_
  iterate 6
    first
      | refine Fx.skip rfl rfl (by simp only [List.set_cons_zero, List.set_cons_succ]; rfl) ?_
      | (with_reducible refine Fx.lab0 ?_
         first
           | refine Fx.moveT rfl rfl rfl (by simp only [List.set_cons_zero, List.set_cons_succ]; rfl) ?_
           | refine Fx.assignT rfl rfl rfl (by simp only [List.set_cons_zero, List.set_cons_succ]; rfl) ?_
           | refine Fx.pure_ rfl rfl (fun _ => by go_simp; first | done | rfl) (by simp only [List.set_cons_zero, List.set_cons_succ]; rfl) ?_)
      | (with_reducible refine Fx.lab1 ?_
         refine Fx.look rfl rfl (fun w' hC => by obtain ⟨hc, hf, hl⟩ := Ext.cells hC; go_simp; rfl) (by simp only [List.set_cons_zero, List.set_cons_succ]; rfl) ?_)
  refine Fx.mkSl 1 1 (fun B w' => IL .i64 w' (.slice (some ⟨B, 0, none⟩) 1 1) [node]) (fun B _ _ h k => h.ext k) rfl rfl (fun w' hC => stepAt_litI1 hC node rfl) (fun B => ?_)
  simp only [List.set_cons_zero, List.set_cons_succ]
  refine Fx.call1 (v := .bool r) (args := #[.int .i64 0, .int .i64 ((σ.n : Int) - 1), .slice (some ⟨B, 0, none⟩) 1 1]) rfl rfl (fun _ => by first | (go_simp; done) | (go_simp; rfl)) (fun w' hC => (withinI_at w' _ _ _ [node] hC.2 (by simp)).mono (fun e w'' hh => by rw [Hin.out] at hh; exact ⟨hh.1, by rw [hh.2]; exact Ext.refl _⟩)) (by simp only [List.set_cons_zero, List.set_cons_succ]; rfl) ?_
  first
    | refine Fx.skip rfl rfl (by simp only [List.set_cons_zero, List.set_cons_succ]; rfl) ?_
    | (with_reducible refine Fx.lab0 ?_
       first
         | refine Fx.moveT rfl rfl rfl (by simp only [List.set_cons_zero, List.set_cons_succ]; rfl) ?_
         | refine Fx.assignT rfl rfl rfl (by simp only [List.set_cons_zero, List.set_cons_succ]; rfl) ?_
         | refine Fx.pure_ rfl rfl (fun _ => by go_simp; first | done | rfl) (by simp only [List.set_cons_zero, List.set_cons_succ]; rfl) ?_)
    | (with_reducible refine Fx.lab1 ?_
       refine Fx.look rfl rfl (fun w' hC => by obtain ⟨hc, hf, hl⟩ := Ext.cells hC; go_simp; rfl) (by simp only [List.set_cons_zero, List.set_cons_succ]; rfl) ?_)
  refine Fx.done (fun w1 hC => ?_)
  have HE1 := Lib.hid hC.1
  have HM1 := Lib.hid (HM.out.ext hC.1)
  clear hC c1 lb
  cases r with
  | false =>
    go_wp2
    go_ret
    refine ⟨by unfold hearE; rw [Hr.out]; rfl, ?_, HE1.out.mods _⟩
    unfold hearS; rw [Hr.out]; exact HM1.out
  | true =>
    have hnode : 0 ≤ node ∧ node ≤ (σ.n : Int) - 1 := by have := Hr.out; unfold nodeB at this; simpa using this
    obtain ⟨i, rfl⟩ : ∃ i : Nat, node = i := ⟨node.toNat, by omega⟩
    have hi : i < σ.n := by omega
    have Hi := Lib.hid hi
    clear hnode
    go_upto_region 6 with (go_at_call 16; refine (pass_at HM1.out _).mono ?_; rintro e w2 ⟨he, hM2, hm2⟩; rw [Hp.out] at he hM2; rw [Hpc.out] at he; subst he; have HM2 := Lib.hid hM2; have Hm2 := Lib.hid hm2; clear hM2 hm2)
    cases p with
    | false =>
      have hpc : pc = 70 := Hpc.out.symm
      subst hpc
      go_wp2
      go_ret
      refine ⟨by unfold hearE; rw [Hr.out, Hp.out]; rfl, ?_, (HE1.out.mods _).trans Hm2.out (fun _ _ h => h)⟩
      unfold hearS; rw [Hr.out, Hp.out]; exact HM2.out
    | true =>
      have hpc : pc = 0 := Hpc.out.symm
      subst hpc
      have HP2 : Hid (DetAt w2 b mb (passS σ t)) := Lib.hid HM2.out
      obtain ⟨c0, c1, c2, c3, c4, c5, c6, fb, lb, lm⟩ := HP2.out.cells
      obtain ⟨x, hx⟩ : ∃ x, σ.nd i = x := ⟨_, rfl⟩
      have hl := look_nd (passS σ t).n (passS σ t).nd i
      rw [if_pos (by show 0 ≤ (i : Int) ∧ (i : Int) < (σ.n : Int); omega)] at hl
      have hl2 : (((kfind (i : Int) (asc (passS σ t).n (passS σ t).nd)).map Nd.val).getD (Nd.val nd0) : Value) = x.val := by rw [hl, ← hx]; simp [passS]
      have Hl := Lib.hid hl2
      have ht0 := HO.out.t0 i
      have ht1 := HO.out.t1 i
      have hmo := HO.out.most
      have hs0 := HO.out.s0
      have hs1 := HO.out.s1
      rw [hx] at ht0 ht1
      have hst : (passS σ t).step = σ.step := rfl
      have hmt : (passS σ t).most = σ.most := rfl
      rw [hst] at c4
      rw [hmt] at c3
      unfold maxT at hmo hs1
      have hwa : IntKind.u64.wrap (x.t + σ.step) = x.t + σ.step := IntWalk.u64_in _ ⟨by omega, by omega⟩
      have Hx := Lib.hid hx
      clear hx hl hl2 c0 c1 c2 c5 fb lm ht0 ht1 hmo hs0 hs1 hst hmt
      go_upto_region 8 with fail
      refine wp_region_line [(0,0),(1,0),(2,0),(3,1),(4,0),(5,1),(6,2),(7,3)] (by kernel_rfl) (by kernel_rfl) (Ext w2) (fun _ _ h k => h.trans k) (Ext.refl _) ?_
      iterate 5
        first
          | refine Fx.skip rfl rfl (by simp only [List.set_cons_zero, List.set_cons_succ]; rfl) ?_
          | (with_reducible refine Fx.lab0 ?_
             first
               | refine Fx.moveT rfl rfl rfl (by simp only [List.set_cons_zero, List.set_cons_succ]; rfl) ?_
               | refine Fx.assignT rfl rfl rfl (by simp only [List.set_cons_zero, List.set_cons_succ]; rfl) ?_
               | refine Fx.pure_ rfl rfl (fun _ => by go_simp; first | done | rfl) (by simp only [List.set_cons_zero, List.set_cons_succ]; rfl) ?_)
          | (with_reducible refine Fx.lab1 ?_
             refine Fx.look rfl rfl (fun w' hC => by obtain ⟨hc, hf, hl⟩ := Ext.cells hC; go_simp; rfl) (by simp only [List.set_cons_zero, List.set_cons_succ]; rfl) ?_)
      refine Fx.look (v := x.val) rfl rfl (fun w' hC => by rw [op_look (k := (i : Int)) (HP2.out.map.ext hC) keysInt Try.underlying49 (zeroNd w') rfl rfl, Hl.out]; rfl) (by simp only [List.set_cons_zero, List.set_cons_succ]; rfl) ?_
      refine Fx.mkPtr (fun B w' => w2.heap.size ≤ B ∧ Obj_ w' B 3 (ndF nd0)) (fun B _ _ h k => ⟨h.1, h.2.ext k⟩) rfl rfl (fun w' hC => stepAt_alloc_Nd hC) (fun B8 => ?_)
      simp only [List.set_cons_zero, List.set_cons_succ]
      refine Fx.eff0 (NdPre w2 B8 x) (ndPre_stable _ _ _) rfl rfl (fun w' hC => stepAt_mono (stepAt_store_Nd hC.1 hC.2.1 hC.2.2 x rfl rfl) (fun _ w'' h => ⟨h.1, hC.2.1, h.2⟩)) ?_
      refine Fx.done (fun w3 hC => ?_)
      obtain ⟨hE3, hB8, hO8⟩ := hC
      have HE3 := Lib.hid hE3
      have HB8 := Lib.hid hB8
      have HO8 := Lib.hid hO8
      obtain ⟨xc, xf, xl⟩ := hE3.cells
      replace c3 := (xc _ _ lb).trans c3
      replace c4 := (xc _ _ lb).trans c4
      replace c6 := (xc _ _ lb).trans c6
      replace lb := xl _ lb
      obtain ⟨d0, d1, d2⟩ := hO8.nd
      have f0 := hO8.free 0
      have f1 := hO8.free 1
      have f2 := hO8.free 2
      have dl := hO8.lt
      clear xc xf xl hE3 hB8 hO8
      obtain ⟨xh, xt, xs⟩ := x
      cases xs with
      | false =>
        obtain ⟨y, hy⟩ : ∃ y : Nd, ⟨xh, xt, false⟩ = y := ⟨_, rfl⟩
        have HX : Hid (hearX σ ⟨xh, xt, false⟩ t = ⟨t, y.t, false⟩) := Lib.hid (by rw [← hy]; rfl)
        have HE4 := HE3
        obtain ⟨w4, hw4⟩ : ∃ w4, w3 = w4 := ⟨_, rfl⟩
        have HO4 : Hid (Obj_ w3 B8 3 (ndF y)) := Lib.hid (by rw [← hy]; exact HO8.out)
        subst hw4
        generalize w3 = w4 at *
        clear hy hwa c3 c4
        clear d0 d1 f0 f1 f2 dl HO8 HE3
        go_upto_region 11 with fail
        clear d2
        obtain ⟨d0, d1, d2⟩ := HO4.out.nd
        have f0 := HO4.out.free 0
        have f1 := HO4.out.free 1
        have f2 := HO4.out.free 2
        have dl := HO4.out.lt
        go_upto_region 11 with fail
        refine wp_region_line [(0,0),(1,0),(2,3)] (by kernel_rfl) (by kernel_rfl) (Ext w4) (fun _ _ h k => h.trans k) (Ext.refl _) ?_
        iterate 2
          first
            | refine Fx.skip rfl rfl (by simp only [List.set_cons_zero, List.set_cons_succ]; rfl) ?_
            | (with_reducible refine Fx.lab0 ?_
               first
                 | refine Fx.moveT rfl rfl rfl (by simp only [List.set_cons_zero, List.set_cons_succ]; rfl) ?_
                 | refine Fx.assignT rfl rfl rfl (by simp only [List.set_cons_zero, List.set_cons_succ]; rfl) ?_
                 | refine Fx.pure_ rfl rfl (fun _ => by go_simp; first | done | rfl) (by simp only [List.set_cons_zero, List.set_cons_succ]; rfl) ?_)
            | (with_reducible refine Fx.lab1 ?_
               refine Fx.look rfl rfl (fun w' hC => by obtain ⟨hc, hf, hl⟩ := Ext.cells hC; go_simp; rfl) (by simp only [List.set_cons_zero, List.set_cons_succ]; rfl) ?_)
        refine Fx.store ⟨B8, 0, none⟩ (.int .u64 t) rfl rfl (fun w' hC => by
          obtain ⟨hc, hf, hl⟩ := hC.cells
          have e1 := (hc _ 0 dl).trans d0
          have e2 := (hf _ 0 dl).trans f0
          clear hc hf hl
          go_simp) ?_
        refine Fx.done (fun w5 hC => ?_)
        obtain ⟨wa, x1, x2⟩ := hC
        have HO5 : Hid (Obj_ w5 B8 3 (ndF ⟨t, y.t, y.s⟩)) := Lib.hid ((ndF_set y 0 (.int .u64 t) ⟨t, y.t, y.s⟩ (fun j hj => by match j, hj with | 0, _ => rfl | 1, _ => rfl | 2, _ => rfl) (HO4.out.ext x1) (by decide)).ext x2)
        have HE5 := Lib.hid (((HE4.out.trans x1).setNew (p := ⟨B8, 0, none⟩) HB8.out (.int .u64 t)).trans x2)
        clear x1 x2 d0 d1 d2 f0 f1 f2 dl c6 lb
        obtain ⟨d0, d1, d2⟩ := HO5.out.nd
        have f2 := HO5.out.free 2
        have dl := HO5.out.lt
        go_upto_region 12 with fail
        refine wp_region_line [(0,0),(1,3)] (by kernel_rfl) (by kernel_rfl) (Ext w5) (fun _ _ h k => h.trans k) (Ext.refl _) ?_
        first
          | refine Fx.skip rfl rfl (by simp only [List.set_cons_zero, List.set_cons_succ]; rfl) ?_
          | (with_reducible refine Fx.lab0 ?_
             first
               | refine Fx.moveT rfl rfl rfl (by simp only [List.set_cons_zero, List.set_cons_succ]; rfl) ?_
               | refine Fx.assignT rfl rfl rfl (by simp only [List.set_cons_zero, List.set_cons_succ]; rfl) ?_
               | refine Fx.pure_ rfl rfl (fun _ => by go_simp; first | done | rfl) (by simp only [List.set_cons_zero, List.set_cons_succ]; rfl) ?_)
          | (with_reducible refine Fx.lab1 ?_
             refine Fx.look rfl rfl (fun w' hC => by obtain ⟨hc, hf, hl⟩ := Ext.cells hC; go_simp; rfl) (by simp only [List.set_cons_zero, List.set_cons_succ]; rfl) ?_)
        refine Fx.store ⟨B8, 2, none⟩ (.bool false) rfl rfl (fun w' hC => by
          obtain ⟨hc, hf, hl⟩ := hC.cells
          have e1 := (hc _ 2 dl).trans d2
          have e2 := (hf _ 2 dl).trans f2
          clear hc hf hl
          go_simp) ?_
        refine Fx.done (fun w6 hC => ?_)
        obtain ⟨wa, x1, x2⟩ := hC
        have HO6 : Hid (Obj_ w6 B8 3 (ndF ⟨t, y.t, false⟩)) := Lib.hid ((ndF_set ⟨t, y.t, y.s⟩ 2 (.bool false) ⟨t, y.t, false⟩ (fun j hj => by match j, hj with | 0, _ => rfl | 1, _ => rfl | 2, _ => rfl) (HO5.out.ext x1) (by decide)).ext x2)
        have HE6 := Lib.hid (((HE5.out.trans x1).setNew (p := ⟨B8, 2, none⟩) HB8.out (.bool false)).trans x2)
        clear x1 x2 d0 d1 d2 f2 dl
        obtain ⟨d0, d1, d2⟩ := HO6.out.nd
        have dl := HO6.out.lt
        have HD6 := Lib.hid (HP2.out.ext HE6.out)
        obtain ⟨z0, z1, z2, z3, z4, z5, c6, zfb, lb, zlm⟩ := HD6.out.cells
        clear z0 z1 z2 z3 z4 z5 zfb zlm
        go_upto_region 13 with fail
        refine wp_region_plan [(0,0),(1,0),(2,0),(3,1),(4,0),(5,1),(6,3)] (by kernel_rfl) (by kernel_rfl) (by kernel_rfl) (Ext w6) (fun _ _ h k => h.trans k) (Ext.drawn _ _) ?_
        iterate 5
          first
            | refine Fx.skip rfl rfl (by simp only [List.set_cons_zero, List.set_cons_succ]; rfl) ?_
            | (with_reducible refine Fx.lab0 ?_
               first
                 | refine Fx.moveT rfl rfl rfl (by simp only [List.set_cons_zero, List.set_cons_succ]; rfl) ?_
                 | refine Fx.assignT rfl rfl rfl (by simp only [List.set_cons_zero, List.set_cons_succ]; rfl) ?_
                 | refine Fx.pure_ rfl rfl (fun _ => by go_simp; first | done | rfl) (by simp only [List.set_cons_zero, List.set_cons_succ]; rfl) ?_)
            | (with_reducible refine Fx.lab1 ?_
               refine Fx.look rfl rfl (fun w' hC => by obtain ⟨hc, hf, hl⟩ := Ext.cells hC; go_simp; rfl) (by simp only [List.set_cons_zero, List.set_cons_succ]; rfl) ?_)
        refine Fx.look rfl rfl (op_load_Nd' (m := ⟨t, y.t, false⟩) dl d0 d1 d2 rfl) (by simp only [List.set_cons_zero, List.set_cons_succ]; rfl) ?_
        refine Fx.eff0 (fun w' => MapIs w' mb (Value.int .i64) Nd.val (kput (i : Int) ⟨t, y.t, false⟩ (asc (passS σ t).n (passS σ t).nd)) ∧ Mods (· = mb) w6 w') (fun _ _ h k => ⟨h.1.ext k, h.2.then_ k⟩) rfl rfl (fun w' hC => ?_) ?_
        · exact stepAt_mono (stepAt_upd (k := (i : Int)) (v := (⟨t, y.t, false⟩ : Nd)) (HD6.out.map.ext hC) keysInt Try.underlying49 rfl rfl rfl) (fun _ w'' hh => ⟨hh.1, hh.2.after hC⟩)
        refine Fx.done (fun w7 hC => ?_)
        have HF := Lib.hid (HD6.out.put Hi.out hC.1 hC.2)
        have HMm := Lib.hid ((((HE1.out.mods (FD b mb)).trans Hm2.out (fun _ _ h => h)).trans (HE6.out.mods (FD b mb)) (fun _ _ h => h)).trans hC.2 (fun _ _ h => .inr h))
        clear hC d0 d1 d2 dl c6 lb
        go_wp2
        go_ret
        refine ⟨by unfold hearE; rw [Hr.out, Hp.out]; rfl, ?_, HMm.out⟩
        have e : hearS σ i t = { passS σ t with nd := updI (passS σ t).nd i ⟨t, y.t, false⟩ } := by
          unfold hearS
          rw [Hr.out, Hp.out]
          simp only [Bool.and_self, if_true, Int.toNat_natCast, Hx.out, HX.out]
          rfl
        rw [e]; exact HF.out
      | true =>
        obtain ⟨mn, hmn⟩ : ∃ mn, min (xt + σ.step) σ.most = mn := ⟨_, rfl⟩
        have Hmn := Lib.hid hmn
        go_upto_region 10 with fail
        refine wp_region_plan [(0,0),(1,1),(2,0),(3,0),(4,0),(5,0),(6,1),(7,0),(8,0),(9,0),(10,0),(11,0),(12,1),(13,0),(14,0),(15,3)] (by kernel_rfl) (by kernel_rfl) (by kernel_rfl) (Ext w3) (fun _ _ h k => h.trans k) (Ext.drawn _ _) ?_
        iterate 15
          first
            | refine Fx.skip rfl rfl (by simp only [List.set_cons_zero, List.set_cons_succ]; rfl) ?_
            | (with_reducible refine Fx.lab0 ?_
               first
                 | refine Fx.moveT rfl rfl rfl (by simp only [List.set_cons_zero, List.set_cons_succ]; rfl) ?_
                 | refine Fx.assignT rfl rfl rfl (by simp only [List.set_cons_zero, List.set_cons_succ]; rfl) ?_
                 | refine Fx.pure_ rfl rfl (fun _ => by go_simp; first | done | rfl) (by simp only [List.set_cons_zero, List.set_cons_succ]; rfl) ?_)
            | (with_reducible refine Fx.lab1 ?_
               refine Fx.look rfl rfl (fun w' hC => by obtain ⟨hc, hf, hl⟩ := Ext.cells hC; go_simp; rfl) (by simp only [List.set_cons_zero, List.set_cons_succ]; rfl) ?_)
        refine Fx.store ⟨B8, 1, none⟩ (.int .u64 mn) rfl rfl (fun w' hC => by
          obtain ⟨hc, hf, hl⟩ := hC.cells
          have e1 := (hc _ 1 dl).trans d1
          have e2 := (hf _ 1 dl).trans f1
          clear hc hf hl
          go_simp) ?_
        refine Fx.done (fun w4 hC => ?_)
        obtain ⟨wa, x1, x2⟩ := hC
        obtain ⟨y, hy⟩ : ∃ y : Nd, ⟨xh, mn, true⟩ = y := ⟨_, rfl⟩
        have HX : Hid (hearX σ ⟨xh, xt, true⟩ t = ⟨t, y.t, false⟩) := Lib.hid (by rw [← hy]; unfold hearX; simp [Hmn.out])
        have HO4 : Hid (Obj_ w4 B8 3 (ndF y)) := Lib.hid (by rw [← hy]; exact (ndF_set ⟨xh, xt, true⟩ 1 (.int .u64 mn) ⟨xh, mn, true⟩ (fun j hj => by match j, hj with | 0, _ => rfl | 1, _ => rfl | 2, _ => rfl) (HO8.out.ext x1) (by decide)).ext x2)
        have HE4 := Lib.hid (((HE3.out.trans x1).setNew (p := ⟨B8, 1, none⟩) HB8.out (.int .u64 mn)).trans x2)
        clear x1 x2 hy hwa c3 c4 hmn
        clear d0 d1 d2 f0 f1 f2 dl HO8 HE3
        obtain ⟨d0, d1, d2⟩ := HO4.out.nd
        have f0 := HO4.out.free 0
        have f1 := HO4.out.free 1
        have f2 := HO4.out.free 2
        have dl := HO4.out.lt
        go_upto_region 11 with fail
        refine wp_region_line [(0,0),(1,0),(2,3)] (by kernel_rfl) (by kernel_rfl) (Ext w4) (fun _ _ h k => h.trans k) (Ext.refl _) ?_
        iterate 2
          first
            | refine Fx.skip rfl rfl (by simp only [List.set_cons_zero, List.set_cons_succ]; rfl) ?_
            | (with_reducible refine Fx.lab0 ?_
               first
                 | refine Fx.moveT rfl rfl rfl (by simp only [List.set_cons_zero, List.set_cons_succ]; rfl) ?_
                 | refine Fx.assignT rfl rfl rfl (by simp only [List.set_cons_zero, List.set_cons_succ]; rfl) ?_
                 | refine Fx.pure_ rfl rfl (fun _ => by go_simp; first | done | rfl) (by simp only [List.set_cons_zero, List.set_cons_succ]; rfl) ?_)
            | (with_reducible refine Fx.lab1 ?_
               refine Fx.look rfl rfl (fun w' hC => by obtain ⟨hc, hf, hl⟩ := Ext.cells hC; go_simp; rfl) (by simp only [List.set_cons_zero, List.set_cons_succ]; rfl) ?_)
        refine Fx.store ⟨B8, 0, none⟩ (.int .u64 t) rfl rfl (fun w' hC => by
          obtain ⟨hc, hf, hl⟩ := hC.cells
          have e1 := (hc _ 0 dl).trans d0
          have e2 := (hf _ 0 dl).trans f0
          clear hc hf hl
          go_simp) ?_
        refine Fx.done (fun w5 hC => ?_)
        obtain ⟨wa, x1, x2⟩ := hC
        have HO5 : Hid (Obj_ w5 B8 3 (ndF ⟨t, y.t, y.s⟩)) := Lib.hid ((ndF_set y 0 (.int .u64 t) ⟨t, y.t, y.s⟩ (fun j hj => by match j, hj with | 0, _ => rfl | 1, _ => rfl | 2, _ => rfl) (HO4.out.ext x1) (by decide)).ext x2)
        have HE5 := Lib.hid (((HE4.out.trans x1).setNew (p := ⟨B8, 0, none⟩) HB8.out (.int .u64 t)).trans x2)
        clear x1 x2 d0 d1 d2 f0 f1 f2 dl c6 lb
        obtain ⟨d0, d1, d2⟩ := HO5.out.nd
        have f2 := HO5.out.free 2
        have dl := HO5.out.lt
        go_upto_region 12 with fail
        refine wp_region_line [(0,0),(1,3)] (by kernel_rfl) (by kernel_rfl) (Ext w5) (fun _ _ h k => h.trans k) (Ext.refl _) ?_
        first
          | refine Fx.skip rfl rfl (by simp only [List.set_cons_zero, List.set_cons_succ]; rfl) ?_
          | (with_reducible refine Fx.lab0 ?_
             first
               | refine Fx.moveT rfl rfl rfl (by simp only [List.set_cons_zero, List.set_cons_succ]; rfl) ?_
               | refine Fx.assignT rfl rfl rfl (by simp only [List.set_cons_zero, List.set_cons_succ]; rfl) ?_
               | refine Fx.pure_ rfl rfl (fun _ => by go_simp; first | done | rfl) (by simp only [List.set_cons_zero, List.set_cons_succ]; rfl) ?_)
          | (with_reducible refine Fx.lab1 ?_
             refine Fx.look rfl rfl (fun w' hC => by obtain ⟨hc, hf, hl⟩ := Ext.cells hC; go_simp; rfl) (by simp only [List.set_cons_zero, List.set_cons_succ]; rfl) ?_)
        refine Fx.store ⟨B8, 2, none⟩ (.bool false) rfl rfl (fun w' hC => by
          obtain ⟨hc, hf, hl⟩ := hC.cells
          have e1 := (hc _ 2 dl).trans d2
          have e2 := (hf _ 2 dl).trans f2
          clear hc hf hl
          go_simp) ?_
        refine Fx.done (fun w6 hC => ?_)
        obtain ⟨wa, x1, x2⟩ := hC
        have HO6 : Hid (Obj_ w6 B8 3 (ndF ⟨t, y.t, false⟩)) := Lib.hid ((ndF_set ⟨t, y.t, y.s⟩ 2 (.bool false) ⟨t, y.t, false⟩ (fun j hj => by match j, hj with | 0, _ => rfl | 1, _ => rfl | 2, _ => rfl) (HO5.out.ext x1) (by decide)).ext x2)
        have HE6 := Lib.hid (((HE5.out.trans x1).setNew (p := ⟨B8, 2, none⟩) HB8.out (.bool false)).trans x2)
        clear x1 x2 d0 d1 d2 f2 dl
        obtain ⟨d0, d1, d2⟩ := HO6.out.nd
        have dl := HO6.out.lt
        have HD6 := Lib.hid (HP2.out.ext HE6.out)
        obtain ⟨z0, z1, z2, z3, z4, z5, c6, zfb, lb, zlm⟩ := HD6.out.cells
        clear z0 z1 z2 z3 z4 z5 zfb zlm
        go_upto_region 13 with fail
        refine wp_region_plan [(0,0),(1,0),(2,0),(3,1),(4,0),(5,1),(6,3)] (by kernel_rfl) (by kernel_rfl) (by kernel_rfl) (Ext w6) (fun _ _ h k => h.trans k) (Ext.drawn _ _) ?_
        iterate 5
          first
            | refine Fx.skip rfl rfl (by simp only [List.set_cons_zero, List.set_cons_succ]; rfl) ?_
            | (with_reducible refine Fx.lab0 ?_
               first
                 | refine Fx.moveT rfl rfl rfl (by simp only [List.set_cons_zero, List.set_cons_succ]; rfl) ?_
                 | refine Fx.assignT rfl rfl rfl (by simp only [List.set_cons_zero, List.set_cons_succ]; rfl) ?_
                 | refine Fx.pure_ rfl rfl (fun _ => by go_simp; first | done | rfl) (by simp only [List.set_cons_zero, List.set_cons_succ]; rfl) ?_)
            | (with_reducible refine Fx.lab1 ?_
               refine Fx.look rfl rfl (fun w' hC => by obtain ⟨hc, hf, hl⟩ := Ext.cells hC; go_simp; rfl) (by simp only [List.set_cons_zero, List.set_cons_succ]; rfl) ?_)
        refine Fx.look rfl rfl (op_load_Nd' (m := ⟨t, y.t, false⟩) dl d0 d1 d2 rfl) (by simp only [List.set_cons_zero, List.set_cons_succ]; rfl) ?_
        refine Fx.eff0 (fun w' => MapIs w' mb (Value.int .i64) Nd.val (kput (i : Int) ⟨t, y.t, false⟩ (asc (passS σ t).n (passS σ t).nd)) ∧ Mods (· = mb) w6 w') (fun _ _ h k => ⟨h.1.ext k, h.2.then_ k⟩) rfl rfl (fun w' hC => ?_) ?_
        · exact stepAt_mono (stepAt_upd (k := (i : Int)) (v := (⟨t, y.t, false⟩ : Nd)) (HD6.out.map.ext hC) keysInt Try.underlying49 rfl rfl rfl) (fun _ w'' hh => ⟨hh.1, hh.2.after hC⟩)
        refine Fx.done (fun w7 hC => ?_)
        have HF := Lib.hid (HD6.out.put Hi.out hC.1 hC.2)
        have HMm := Lib.hid ((((HE1.out.mods (FD b mb)).trans Hm2.out (fun _ _ h => h)).trans (HE6.out.mods (FD b mb)) (fun _ _ h => h)).trans hC.2 (fun _ _ h => .inr h))
        clear hC d0 d1 d2 dl c6 lb
        go_wp2
        go_ret
        refine ⟨by unfold hearE; rw [Hr.out, Hp.out]; rfl, ?_, HMm.out⟩
        have e : hearS σ i t = { passS σ t with nd := updI (passS σ t).nd i ⟨t, y.t, false⟩ } := by
          unfold hearS
          rw [Hr.out, Hp.out]
          simp only [Bool.and_self, if_true, Int.toNat_natCast, Hx.out, HX.out]
          rfl
        rw [e]; exact HF.out
end Go.Proofs.Ytfdbfdbeegalpaa
