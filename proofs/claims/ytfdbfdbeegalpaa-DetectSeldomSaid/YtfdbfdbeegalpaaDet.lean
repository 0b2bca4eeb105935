/-
  detect.Detector in memory; pass, Timeout, New.
-/
import Derived.Test.YtfdbfdbeegalpaaPlainD
namespace Go.Proofs.Ytfdbfdbeegalpaa
open Go.RowKit
attribute [local go_sem] Oper.semAt_some

def dF (σ : DSt) (mb : Nat) : Nat → Value := fun i => [Value.int .i64 σ.self, .int .i64 σ.n, .int .u64 σ.first, .int .u64 σ.most, .int .u64 σ.step, .int .u64 σ.now, .map (some mb)].getD i undef
structure DetAt (w : World) (b mb : Nat) (σ : DSt) : Prop where
  obj : Obj_ w b 7 (dF σ mb)
  map : MapIs w mb (Value.int .i64) Nd.val (asc σ.n σ.nd)
  d1 : b ≠ mb
def FD (b mb : Nat) (x : Nat) : Prop := x = b ∨ x = mb
theorem DetAt.mods {w w' : World} {b mb : Nat} {σ : DSt} {S : Nat → Prop} (h : DetAt w b mb σ) (he : Mods S w w') (hS : ∀ x, FD b mb x → ¬ S x) : DetAt w' b mb σ :=
  ⟨h.obj.mods he (hS _ (.inl rfl)), h.map.mods he (hS _ (.inr rfl)), h.d1⟩
theorem DetAt.ext {w w' : World} {b mb : Nat} {σ : DSt} (h : DetAt w b mb σ) (he : Ext w w') : DetAt w' b mb σ := h.mods (he.mods (fun _ => False)) (fun _ _ h => h)
theorem DetAt.lt {w : World} {b mb : Nat} {σ : DSt} (h : DetAt w b mb σ) {x : Nat} (hx : FD b mb x) : x < w.heap.size := by
  rcases hx with rfl | rfl
  · exact h.obj.lt
  · exact h.map.lt
structure DetCells (w : World) (b mb : Nat) (σ : DSt) : Prop where
  c0 : w.cell? ⟨b, 0, none⟩ = some (.int .i64 σ.self)
  c1 : w.cell? ⟨b, 1, none⟩ = some (.int .i64 σ.n)
  c2 : w.cell? ⟨b, 2, none⟩ = some (.int .u64 σ.first)
  c3 : w.cell? ⟨b, 3, none⟩ = some (.int .u64 σ.most)
  c4 : w.cell? ⟨b, 4, none⟩ = some (.int .u64 σ.step)
  c5 : w.cell? ⟨b, 5, none⟩ = some (.int .u64 σ.now)
  c6 : w.cell? ⟨b, 6, none⟩ = some (.map (some mb))
  fb : ∀ o, w.frozen? ⟨b, o, none⟩ = false
  lb : b < w.heap.size
  lm : mb < w.heap.size
theorem DetAt.cells {w : World} {b mb : Nat} {σ : DSt} (h : DetAt w b mb σ) : DetCells w b mb σ :=
  ⟨h.obj.cell 0 (by omega), h.obj.cell 1 (by omega), h.obj.cell 2 (by omega), h.obj.cell 3 (by omega), h.obj.cell 4 (by omega), h.obj.cell 5 (by omega), h.obj.cell 6 (by omega), h.obj.free, h.obj.lt, h.map.lt⟩
theorem keysInt : KeyOps Try.prog 3 (Value.int .i64) := keyOps_int Try.underlying3
theorem zeroNd (w : World) : (zeroValue 48).run Try.prog w = .ok (Nd.val nd0) w := Try.zeroValue48 w
theorem look_nd (n : Nat) (f : Nat → Nd) (k : Int) : (((kfind k (asc n f)).map Nd.val).getD (Nd.val nd0) : Value) = (if 0 ≤ k ∧ k < n then f k.toNat else nd0).val := by
  rw [kfind_asc]; split <;> rfl

/-! ### pass -/
def PassR (b mb : Nat) (σ : DSt) (t : Int) (w : World) (e : Ending) (w' : World) : Prop :=
  e = .returned (.int .i64 (if passB σ t = true then 0 else 70)) ∧ DetAt w' b mb (if passB σ t = true then passS σ t else σ) ∧ Mods (FD b mb) w w'
set_option maxRecDepth 100000 in
set_option maxHeartbeats 1600000 in
theorem pass_at {w : World} {b mb : Nat} {σ : DSt} (hM : DetAt w b mb σ) (t : Int) :
    Calls Try.prog 16 #[.pointer (some ⟨b, 0, none⟩), .int .u64 t] w (PassR b mb σ t w) := by
  obtain ⟨c0, c1, c2, c3, c4, c5, c6, fb, lb, lm⟩ := hM.cells
  have HM := Lib.hid hM
  obtain ⟨r, hr⟩ : ∃ r, passB σ t = r := ⟨_, rfl⟩
  have hin : inB σ.now 1152921504606846976 [t] = r := by rw [inB_one, ← hr]; rfl
  have Hin := Lib.hid hin
  have Hr := Lib.hid hr
  clear hM c0 c1 c2 c3 c4 c6 lm hin hr
  go_enter Try.func16, Try.ntmps16
  go_upto_region 1 with fail
  refine wp_region_line [(0,0),(1,0),(2,0),(3,1),(4,0),(5,2),(6,1),(7,0)] (by kernel_rfl) (by kernel_rfl) (Ext w) (fun _ _ h k => h.trans k) (Ext.refl _) ?_
  iterate 5
    first
      | refine Fx.skip rfl rfl (by simp only [List.set_cons_zero, List.set_cons_succ]; rfl) ?_
      | (with_reducible refine Fx.lab0 ?_
         first
           | refine Fx.moveT rfl rfl rfl (by simp only [List.set_cons_zero, List.set_cons_succ]; rfl) ?_
           | refine Fx.assignT rfl rfl rfl (by simp only [List.set_cons_zero, List.set_cons_succ]; rfl) ?_
           | refine Fx.pure_ rfl rfl (fun _ => by go_simp; first | done | rfl) (by simp only [List.set_cons_zero, List.set_cons_succ]; rfl) ?_)
      | (with_reducible refine Fx.lab1 ?_
         refine Fx.look rfl rfl (fun w' hC => by obtain ⟨hc, hf, hl⟩ := Ext.cells hC; go_simp; rfl) (by simp only [List.set_cons_zero, List.set_cons_succ]; rfl) ?_)
  refine Fx.mkSl 1 1 (fun B w' => IL .u64 w' (.slice (some ⟨B, 0, none⟩) 1 1) [t]) (fun B _ _ h k => h.ext k) rfl rfl (fun w' hC => stepAt_litU1 hC t rfl) (fun B => ?_)
  simp only [List.set_cons_zero, List.set_cons_succ]
  refine Fx.call1 (v := .bool r) (args := #[.int .u64 σ.now, .int .u64 1152921504606846976, .slice (some ⟨B, 0, none⟩) 1 1]) rfl rfl (fun _ => by first | (go_simp; done) | (go_simp; rfl)) (fun w' hC => (withinU_at w' _ _ _ [t] hC.2 (by simp)).mono (fun e w'' hh => by rw [Hin.out] at hh; exact ⟨hh.1, by rw [hh.2]; exact Ext.refl _⟩)) (by simp only [List.set_cons_zero, List.set_cons_succ]; rfl) ?_
  first
    | refine Fx.skip rfl rfl (by simp only [List.set_cons_zero, List.set_cons_succ]; rfl) ?_
    | (with_reducible refine Fx.lab0 ?_
       first
         | refine Fx.moveT rfl rfl rfl (by simp only [List.set_cons_zero, List.set_cons_succ]; rfl) ?_
         | refine Fx.assignT rfl rfl rfl (by simp only [List.set_cons_zero, List.set_cons_succ]; rfl) ?_
         | refine Fx.pure_ rfl rfl (fun _ => by go_simp; first | done | rfl) (by simp only [List.set_cons_zero, List.set_cons_succ]; rfl) ?_)
    | (with_reducible refine Fx.lab1 ?_
       refine Fx.look rfl rfl (fun w' hC => by obtain ⟨hc, hf, hl⟩ := Ext.cells hC; go_simp; rfl) (by simp only [List.set_cons_zero, List.set_cons_succ]; rfl) ?_)
  refine Fx.done (fun w1 hC => ?_)
  have HE1 := Lib.hid hC.1
  have HM1 := Lib.hid (HM.out.ext hC.1)
  obtain ⟨xc, xf, xl⟩ := hC.1.cells
  replace c5 := (xc _ _ lb).trans c5
  have f5 := (xf _ 5 lb).trans (fb 5)
  replace lb := xl _ lb
  clear xc xf xl hC fb
  cases r with
  | false =>
    go_wp2
    go_ret
    refine ⟨by rw [Hr.out]; rfl, ?_, HE1.out.mods _⟩
    rw [Hr.out]; exact HM1.out
  | true =>
    go_upto_region 3 with fail
    refine wp_region_line [(0,0),(1,0),(2,0),(3,0),(4,3)] (by kernel_rfl) (by kernel_rfl) (Ext w1) (fun _ _ h k => h.trans k) (Ext.refl _) ?_
    iterate 4
      first
        | refine Fx.skip rfl rfl (by simp only [List.set_cons_zero, List.set_cons_succ]; rfl) ?_
        | (with_reducible refine Fx.lab0 ?_
           first
             | refine Fx.moveT rfl rfl rfl (by simp only [List.set_cons_zero, List.set_cons_succ]; rfl) ?_
             | refine Fx.assignT rfl rfl rfl (by simp only [List.set_cons_zero, List.set_cons_succ]; rfl) ?_
             | refine Fx.pure_ rfl rfl (fun _ => by go_simp; first | done | rfl) (by simp only [List.set_cons_zero, List.set_cons_succ]; rfl) ?_)
        | (with_reducible refine Fx.lab1 ?_
           refine Fx.look rfl rfl (fun w' hC => by obtain ⟨hc, hf, hl⟩ := Ext.cells hC; go_simp; rfl) (by simp only [List.set_cons_zero, List.set_cons_succ]; rfl) ?_)
    refine Fx.store ⟨b, 5, none⟩ (.int .u64 t) rfl rfl (fun w' hC => by
      obtain ⟨hc, hf, hl⟩ := hC.cells
      have e1 := (hc _ 5 lb).trans c5
      have e2 := (hf _ 5 lb).trans f5
      clear hc hf hl
      go_simp) ?_
    refine Fx.done (fun w2 hC => ?_)
    obtain ⟨wa, x1, x2⟩ := hC
    have m2 : Mods (· = b) wa w2 := (Mods.setCell wa b 5 (.int .u64 t)).then_ x2
    have hfin : DetAt w2 b mb (passS σ t) := by
      refine ⟨?_, (HM1.out.map.ext x1).mods m2 (fun e => HM1.out.d1 e.symm), HM1.out.d1⟩
      exact (((HM1.out.obj.ext x1).set (i := 5) (by decide) (.int .u64 t)).ext x2).congr (fun i hi => by
        match i, hi with
        | 0, _ => rfl
        | 1, _ => rfl
        | 2, _ => rfl
        | 3, _ => rfl
        | 4, _ => rfl
        | 5, _ => rfl
        | 6, _ => rfl)
    have hmm : Mods (FD b mb) w w2 := ((HE1.out.trans x1).mods _).trans m2 (fun _ _ h => .inl h)
    have HF := Lib.hid hfin
    have HMm := Lib.hid hmm
    clear x1 x2 m2 hfin hmm c5 f5
    go_wp2
    go_ret
    refine ⟨by rw [Hr.out]; rfl, ?_, HMm.out⟩
    rw [Hr.out]; exact HF.out

/-! ### Timeout -/
theorem timeout_nil (w : World) (node : Int) : Calls Try.prog 13 #[.pointer none, .int .i64 node] w fun e w' => e = .returned (.int .u64 0) ∧ w' = w := by
  go_enter Try.func13, Try.ntmps13
  go_wp2
  go_ret
  exact ⟨rfl, rfl⟩
set_option maxRecDepth 100000 in
theorem timeout_at {w : World} {b mb : Nat} {σ : DSt} (hM : DetAt w b mb σ) (node : Int) :
    Calls Try.prog 13 #[.pointer (some ⟨b, 0, none⟩), .int .i64 node] w fun e w' => e = .returned (.int .u64 (timeV σ node)) ∧ Ext w w' := by
  obtain ⟨c0, c1, c2, c3, c4, c5, c6, fb, lb, lm⟩ := hM.cells
  have HM := Lib.hid hM
  obtain ⟨x, hx⟩ : ∃ x, (if 0 ≤ node ∧ node < σ.n then σ.nd node.toNat else nd0) = x := ⟨_, rfl⟩
  have hv : timeV σ node = x.t := by rw [← hx]; unfold timeV; split <;> rfl
  have hl := look_nd σ.n σ.nd node
  rw [hx] at hl
  have Hl := Lib.hid hl
  rw [hv]
  clear hM c0 c1 c2 c3 c4 c5 fb lm hx hv hl
  go_enter Try.func13, Try.ntmps13
  go_upto_region 3 with fail
  refine wp_region_line [(0,0),(1,0),(2,0),(3,1),(4,0),(5,1),(6,0),(7,0)] (by kernel_rfl) (by kernel_rfl) (Ext w) (fun _ _ h k => h.trans k) (Ext.refl _) ?_
  iterate 5
    first
      | refine Fx.skip rfl rfl (by simp only [List.set_cons_zero, List.set_cons_succ]; rfl) ?_
      | (with_reducible refine Fx.lab0 ?_
         first
           | refine Fx.moveT rfl rfl rfl (by simp only [List.set_cons_zero, List.set_cons_succ]; rfl) ?_
           | refine Fx.assignT rfl rfl rfl (by simp only [List.set_cons_zero, List.set_cons_succ]; rfl) ?_
           | refine Fx.pure_ rfl rfl (fun _ => by go_simp; first | done | rfl) (by simp only [List.set_cons_zero, List.set_cons_succ]; rfl) ?_)
      | (with_reducible refine Fx.lab1 ?_
         refine Fx.look rfl rfl (fun w' hC => by obtain ⟨hc, hf, hl⟩ := Ext.cells hC; go_simp; rfl) (by simp only [List.set_cons_zero, List.set_cons_succ]; rfl) ?_)
  refine Fx.look (v := .agg #[.int .u64 x.h, .int .u64 x.t, .bool x.s]) rfl rfl (fun w' hC => by rw [op_look (k := node) (HM.out.map.ext hC) keysInt Try.underlying49 (zeroNd w') rfl rfl, Hl.out]; rfl) (by simp only [List.set_cons_zero, List.set_cons_succ]; rfl) ?_
  iterate 2
    first
      | refine Fx.skip rfl rfl (by simp only [List.set_cons_zero, List.set_cons_succ]; rfl) ?_
      | (with_reducible refine Fx.lab0 ?_
         first
           | refine Fx.moveT rfl rfl rfl (by simp only [List.set_cons_zero, List.set_cons_succ]; rfl) ?_
           | refine Fx.assignT rfl rfl rfl (by simp only [List.set_cons_zero, List.set_cons_succ]; rfl) ?_
           | refine Fx.pure_ rfl rfl (fun _ => by go_simp; first | done | rfl) (by simp only [List.set_cons_zero, List.set_cons_succ]; rfl) ?_)
      | (with_reducible refine Fx.lab1 ?_
         refine Fx.look rfl rfl (fun w' hC => by obtain ⟨hc, hf, hl⟩ := Ext.cells hC; go_simp; rfl) (by simp only [List.set_cons_zero, List.set_cons_succ]; rfl) ?_)
  refine Fx.done (fun w1 hC => ?_)
  have HC := Lib.hid hC
  clear hC c6
  go_wp2
  go_ret
  exact ⟨rfl, HC.out⟩
end Go.Proofs.Ytfdbfdbeegalpaa
