/-
  (*model.Model).deliver of what is not in the log yet.
-/
import Derived.Test.YtfnchpjiebojiaaDeliver
import Derived.Test.YtfnchpjiebojiaaSteps2
namespace Go.Proofs.Ytfnchpjiebojiaa
open Go.RowKit

set_option maxRecDepth 100000 in
set_option maxHeartbeats 1600000 in
theorem deliver_no (b sb mb : Nat) (lv : Value) (σ : MSt) (nd : Nat) (h : Hp) (w : World) (hM : ModelAt w b sb mb lv σ) (hO : σ.Ok) (hn : h.n = nd) (hlt : nd < σ.n) (hlen : σ.log.length ≤ 1000000) (hd : σ.del nd = σ.log.length) (hB : layB σ h.m = false) :
    Calls Try.prog 25 #[.pointer (some ⟨b, 0, none⟩), h.val] w fun e w' => e = .returned (.bool false) ∧ Ext w w' := by
  obtain ⟨k, n, m⟩ := h
  simp only at hn hB
  subst hn
  have hE0 := Ext.alloc w (.cells #[.int .i64 k, .int .i64 nd, .int .i64 m.f, .int .u32 m.c, .string m.d] 36)
  have hM0 := hM.ext hE0
  have HM0 := Lib.hid hM0
  have HO := Lib.hid hO
  have HB := Lib.hid hB
  obtain ⟨lA, lcap, rfl⟩ : ∃ A cap, lv = .slice A σ.log.length cap := by obtain ⟨A, cap, e, _⟩ := hM0.log.val; exact ⟨_, _, e⟩
  obtain ⟨c0, c1, c18, cl, sa, sd, fb, fs, lb, ls, lm⟩ := hM0.cells
  replace sd := sd nd hlt
  have bx := box_Hp w ⟨k, nd, m⟩
  have b0 := bx.cell 0 (by decide)
  have b1 := bx.cell 1 (by decide)
  have b2 := bx.cell 2 (by decide)
  have b3 := bx.cell 3 (by decide)
  have b4 := bx.cell 4 (by decide)
  have bl := bx.lt
  simp only [Hp.enc, List.getD_cons_zero, List.getD_cons_succ] at b0 b1 b2 b3 b4
  have hE := Lib.hid hE0
  have hn16 := hO.n16
  have Hd := Lib.hid hd
  unfold Hp.val
  simp only
  rw [hd] at sd
  clear bx hM hO hE0 hM0 cl sa fb fs hB hd
  generalize σ.log.length = q at *
  go_enter Try.func25, Try.ntmps25
  go_wp2
  generalize hW : w.alloc (.cells #[.int .i64 k, .int .i64 nd, .int .i64 m.f, .int .u32 m.c, .string m.d] 36) = W at *
  refine wp_region_plan [(0,0),(1,0),(2,0),(3,1),(4,0),(5,1),(6,0),(7,0)] (by kernel_rfl) (by kernel_rfl) (by kernel_rfl) (Ext W) (fun _ _ h k => h.trans k) (Ext.drawn _ _) ?_
  iterate 8
    first
      | refine Fx.skip rfl rfl (by simp only [List.set_cons_zero, List.set_cons_succ]; rfl) ?_
      | (with_reducible refine Fx.lab0 ?_
         first
           | refine Fx.moveT rfl rfl rfl (by simp only [List.set_cons_zero, List.set_cons_succ]; rfl) ?_
           | refine Fx.assignT rfl rfl rfl (by simp only [List.set_cons_zero, List.set_cons_succ]; rfl) ?_
           | refine Fx.pure_ rfl rfl (fun _ => by go_simp; first | done | rfl) (by simp only [List.set_cons_zero, List.set_cons_succ]; rfl) ?_)
      | (with_reducible refine Fx.lab1 ?_
         refine Fx.look rfl rfl (fun w' hC => by obtain ⟨hc, hf, hl⟩ := Ext.cells hC; go_simp; rfl) (by simp only [List.set_cons_zero, List.set_cons_succ]; rfl) ?_)
  refine Fx.done (fun w1 hC => ?_)
  go_wp2
  refine wp_region_plan [(0,0),(1,0),(2,0),(3,1),(4,0),(5,0),(6,0),(7,1),(8,0),(9,0),(10,0),(11,0),(12,0),(13,1),(14,1),(15,0),(16,0)] (by kernel_rfl) (by kernel_rfl) (by kernel_rfl) (Ext W) (fun _ _ h k => h.trans k) (hC.trans (Ext.drawn _ _)) ?_
  clear hC
  iterate 13
    first
      | refine Fx.skip rfl rfl (by simp only [List.set_cons_zero, List.set_cons_succ]; rfl) ?_
      | (with_reducible refine Fx.lab0 ?_
         first
           | refine Fx.moveT rfl rfl rfl (by simp only [List.set_cons_zero, List.set_cons_succ]; rfl) ?_
           | refine Fx.assignT rfl rfl rfl (by simp only [List.set_cons_zero, List.set_cons_succ]; rfl) ?_
           | refine Fx.pure_ rfl rfl (fun _ => by go_simp; first | done | rfl) (by simp only [List.set_cons_zero, List.set_cons_succ]; rfl) ?_)
      | (with_reducible refine Fx.lab1 ?_
         refine Fx.look rfl rfl (fun w' hC => by obtain ⟨hc, hf, hl⟩ := Ext.cells hC; go_simp; rfl) (by simp only [List.set_cons_zero, List.set_cons_succ]; rfl) ?_)
  refine Fx.look rfl rfl (op_load_Ms' (m := m) bl b2 b3 b4 rfl) (by simp only [List.set_cons_zero, List.set_cons_succ]; rfl) ?_
  refine Fx.call1 (v := .bool false) (args := #[.pointer (some ⟨b, 0, none⟩), m.val]) rfl rfl (fun _ => by first | (go_simp; done) | (go_simp; rfl)) (fun w' hC => lay_no b sb mb _ σ m w' (HM0.out.ext hC) HO.out HB.out) (by simp only [List.set_cons_zero, List.set_cons_succ]; rfl) ?_
  iterate 2
    first
      | refine Fx.skip rfl rfl (by simp only [List.set_cons_zero, List.set_cons_succ]; rfl) ?_
      | (with_reducible refine Fx.lab0 ?_
         first
           | refine Fx.moveT rfl rfl rfl (by simp only [List.set_cons_zero, List.set_cons_succ]; rfl) ?_
           | refine Fx.assignT rfl rfl rfl (by simp only [List.set_cons_zero, List.set_cons_succ]; rfl) ?_
           | refine Fx.pure_ rfl rfl (fun _ => by go_simp; first | done | rfl) (by simp only [List.set_cons_zero, List.set_cons_succ]; rfl) ?_)
      | (with_reducible refine Fx.lab1 ?_
         refine Fx.look rfl rfl (fun w' hC => by obtain ⟨hc, hf, hl⟩ := Ext.cells hC; go_simp; rfl) (by simp only [List.set_cons_zero, List.set_cons_succ]; rfl) ?_)
  refine Fx.done (fun w2 hC => ?_)
  go_wp2
  go_ret
  exact ⟨rfl, hE.out.trans hC⟩

/-- What lies behind the call of lay. -/
def LaidC (W : World) (b sb mb : Nat) (lv : Value) (σ' : MSt) (w' : World) : Prop :=
  ∃ lv', ModelAt w' b sb mb lv' σ' ∧ Mods (FM b sb mb lv) W w' ∧ ∀ y, lv'.ownBlock = some y → lv.ownBlock = some y ∨ W.heap.size ≤ y
theorem laidC_stable (W : World) (b sb mb : Nat) (lv : Value) (σ' : MSt) : StableF (LaidC W b sb mb lv σ') := fun _ _ h k =>
  let ⟨lv', h1, h2, h3⟩ := h; ⟨lv', h1.ext k, h2.then_ k, h3⟩

set_option maxRecDepth 100000 in
set_option maxHeartbeats 1600000 in
theorem deliver_new (b sb mb : Nat) (lv : Value) (σ : MSt) (nd : Nat) (h : Hp) (w : World) (hM : ModelAt w b sb mb lv σ) (hO : σ.Ok) (hn : h.n = nd) (hlt : nd < σ.n) (hlen : σ.log.length ≤ 1000000) (hd : σ.del nd = σ.log.length) (hB : layB σ h.m = true) :
    Calls Try.prog 25 #[.pointer (some ⟨b, 0, none⟩), h.val] w (DeliverR b sb mb lv (delS (layS σ h.m) nd) true w) := by
  obtain ⟨k, n, m⟩ := h
  simp only at hn hB
  subst hn
  have hE0 := Ext.alloc w (.cells #[.int .i64 k, .int .i64 nd, .int .i64 m.f, .int .u32 m.c, .string m.d] 36)
  have hM0 := hM.ext hE0
  have HM0 := Lib.hid hM0
  have HO := Lib.hid hO
  have HB := Lib.hid hB
  have Hlen := Lib.hid hlen
  have hbw : ¬ FM b sb mb lv w.heap.size := fun e => by have := hM.lt e; omega
  obtain ⟨lA, lcap, rfl⟩ : ∃ A cap, lv = .slice A σ.log.length cap := by obtain ⟨A, cap, e, _⟩ := hM0.log.val; exact ⟨_, _, e⟩
  obtain ⟨c0, c1, c18, cl, sa, sd, fb, fs, lb, ls, lm⟩ := hM0.cells
  replace sd := sd nd hlt
  have bx := box_Hp w ⟨k, nd, m⟩
  have b0 := bx.cell 0 (by decide)
  have b1 := bx.cell 1 (by decide)
  have b2 := bx.cell 2 (by decide)
  have b3 := bx.cell 3 (by decide)
  have b4 := bx.cell 4 (by decide)
  have bl := bx.lt
  simp only [Hp.enc, List.getD_cons_zero, List.getD_cons_succ] at b0 b1 b2 b3 b4
  have hE := Lib.hid hE0
  have hn16 := hO.n16
  have Hd := Lib.hid hd
  have hq1 : (layS σ m).log.length = σ.log.length + 1 := by simp [layS]
  have hq2 : ∀ h : σ.log.length < (layS σ m).log.length, (layS σ m).log[σ.log.length]'h = m := fun h => by simp [layS]
  have hq3 : σ.log.length < (layS σ m).log.length := by omega
  have Hq2 := Lib.hid hq2
  have hq0 := hlen
  unfold Hp.val
  simp only
  rw [hd] at sd
  have hsn : (layS σ m).n = σ.n := rfl
  have hsd : (layS σ m).del nd = σ.log.length := hd
  have Hsn := Lib.hid hsn
  have Hsd := Lib.hid hsd
  clear bx hM hO hE0 hM0 cl sa fb fs hB hd hq2 hlen hsn hsd
  generalize hσ' : layS σ m = σ' at *
  have Hσ' := Lib.hid hσ'
  have Hq : ∃ q, q = σ.log.length := ⟨_, rfl⟩
  obtain ⟨q, hq⟩ := Hq
  rw [← hq] at sd c18 hq0
  have Hq := Lib.hid hq
  have Hq1 := Lib.hid hq1
  have Hq3 := Lib.hid hq3
  have Hbw := Lib.hid hbw
  clear hq hq1 hq3 hσ' hbw
  rw [← Hq.out]
  go_enter Try.func25, Try.ntmps25
  go_wp2
  have hWs : w.heap.size < (w.alloc (.cells #[.int .i64 k, .int .i64 nd, .int .i64 m.f, .int .u32 m.c, .string m.d] 36)).heap.size := bl
  generalize hW : w.alloc (.cells #[.int .i64 k, .int .i64 nd, .int .i64 m.f, .int .u32 m.c, .string m.d] 36) = W at *
  refine wp_region_plan [(0,0),(1,0),(2,0),(3,1),(4,0),(5,1),(6,0),(7,0)] (by kernel_rfl) (by kernel_rfl) (by kernel_rfl) (Ext W) (fun _ _ h k => h.trans k) (Ext.drawn _ _) ?_
  iterate 8
    first
      | refine Fx.skip rfl rfl (by simp only [List.set_cons_zero, List.set_cons_succ]; rfl) ?_
      | (with_reducible refine Fx.lab0 ?_
         first
           | refine Fx.moveT rfl rfl rfl (by simp only [List.set_cons_zero, List.set_cons_succ]; rfl) ?_
           | refine Fx.assignT rfl rfl rfl (by simp only [List.set_cons_zero, List.set_cons_succ]; rfl) ?_
           | refine Fx.pure_ rfl rfl (fun _ => by go_simp; first | done | rfl) (by simp only [List.set_cons_zero, List.set_cons_succ]; rfl) ?_)
      | (with_reducible refine Fx.lab1 ?_
         refine Fx.look rfl rfl (fun w' hC => by obtain ⟨hc, hf, hl⟩ := Ext.cells hC; go_simp; rfl) (by simp only [List.set_cons_zero, List.set_cons_succ]; rfl) ?_)
  refine Fx.done (fun w1 hC => ?_)
  go_wp2
  refine wp_region_plan [(0,0),(1,0),(2,0),(3,1),(4,0),(5,0),(6,0),(7,1),(8,0),(9,0),(10,0),(11,0),(12,0),(13,1),(14,3),(15,0),(16,0)] (by kernel_rfl) (by kernel_rfl) (by kernel_rfl) (Ext W) (fun _ _ h k => h.trans k) (hC.trans (Ext.drawn _ _)) ?_
  clear hC
  iterate 13
    first
      | refine Fx.skip rfl rfl (by simp only [List.set_cons_zero, List.set_cons_succ]; rfl) ?_
      | (with_reducible refine Fx.lab0 ?_
         first
           | refine Fx.moveT rfl rfl rfl (by simp only [List.set_cons_zero, List.set_cons_succ]; rfl) ?_
           | refine Fx.assignT rfl rfl rfl (by simp only [List.set_cons_zero, List.set_cons_succ]; rfl) ?_
           | refine Fx.pure_ rfl rfl (fun _ => by go_simp; first | done | rfl) (by simp only [List.set_cons_zero, List.set_cons_succ]; rfl) ?_)
      | (with_reducible refine Fx.lab1 ?_
         refine Fx.look rfl rfl (fun w' hC => by obtain ⟨hc, hf, hl⟩ := Ext.cells hC; go_simp; rfl) (by simp only [List.set_cons_zero, List.set_cons_succ]; rfl) ?_)
  refine Fx.look rfl rfl (op_load_Ms' (m := m) bl b2 b3 b4 rfl) (by simp only [List.set_cons_zero, List.set_cons_succ]; rfl) ?_
  refine Fx.callV (.bool true) (LaidC W b sb mb (.slice lA σ.log.length lcap) σ') (laidC_stable _ _ _ _ _ _) (args := #[.pointer (some ⟨b, 0, none⟩), m.val]) rfl rfl (fun _ => by first | (go_simp; done) | (go_simp; rfl)) (fun w' hC => ?_) (by simp only [List.set_cons_zero, List.set_cons_succ]; rfl) ?_
  · refine (lay_yes b sb mb _ σ m w' (HM0.out.ext hC) HO.out Hlen.out HB.out).mono fun e w'' hh => ?_
    obtain ⟨h1, lv', h2, h3, h4⟩ := hh
    rw [Hσ'.out] at h2
    exact ⟨h1, lv', h2, h3.after hC, fun y hy => (h4 y hy).imp id (fun h => Nat.le_trans hC.size h)⟩
  iterate 2
    first
      | refine Fx.skip rfl rfl (by simp only [List.set_cons_zero, List.set_cons_succ]; rfl) ?_
      | (with_reducible refine Fx.lab0 ?_
         first
           | refine Fx.moveT rfl rfl rfl (by simp only [List.set_cons_zero, List.set_cons_succ]; rfl) ?_
           | refine Fx.assignT rfl rfl rfl (by simp only [List.set_cons_zero, List.set_cons_succ]; rfl) ?_
           | refine Fx.pure_ rfl rfl (fun _ => by go_simp; first | done | rfl) (by simp only [List.set_cons_zero, List.set_cons_succ]; rfl) ?_)
      | (with_reducible refine Fx.lab1 ?_
         refine Fx.look rfl rfl (fun w' hC => by obtain ⟨hc, hf, hl⟩ := Ext.cells hC; go_simp; rfl) (by simp only [List.set_cons_zero, List.set_cons_succ]; rfl) ?_)
  refine Fx.done (fun w2 hC => ?_)
  obtain ⟨lv', h1, h2, h3⟩ := hC
  obtain ⟨xc, xf, xl⟩ := h2.cells
  replace b2 := (xc _ _ bl Hbw.out).trans b2
  replace b3 := (xc _ _ bl Hbw.out).trans b3
  replace b4 := (xc _ _ bl Hbw.out).trans b4
  replace bl := xl _ bl
  obtain ⟨g, gcap, rfl, gl, g0, g1, g2⟩ := h1.logCell Hq3.out
  rw [Hq2.out] at g0 g1 g2
  rw [← Hq.out] at g0 g1 g2
  obtain ⟨c0', c1', c18', cl', sa', sd', fb', fs', lb', ls', lm'⟩ := h1.cells
  rw [Hq1.out, ← Hq.out] at c18'
  replace sd' := sd' nd (by rw [Hsn.out]; exact hlt)
  rw [Hsd.out, ← Hq.out] at sd'
  have H1 := Lib.hid h1
  have H2 := Lib.hid h2
  have H3 := Lib.hid h3
  clear h1 h2 h3 xc xf xl c0 c1 c18 sd b0 b1 cl' sa' fb' c0' c1' lb ls lm
  have hdi : (q : Int) < ((q + 1 : Nat) : Int) := by omega
  generalize q + 1 = L at *
  go_wp2
  refine wp_region_plan [(0,0),(1,0),(2,0),(3,1),(4,0),(5,0),(6,0),(7,1),(8,0),(9,1),(10,0),(11,1),(12,0)] (by kernel_rfl) (by kernel_rfl) (by kernel_rfl) (Ext w2) (fun _ _ h k => h.trans k) (Ext.drawn _ _) ?_
  iterate 9
    first
      | refine Fx.skip rfl rfl (by simp only [List.set_cons_zero, List.set_cons_succ]; rfl) ?_
      | (with_reducible refine Fx.lab0 ?_
         first
           | refine Fx.moveT rfl rfl rfl (by simp only [List.set_cons_zero, List.set_cons_succ]; rfl) ?_
           | refine Fx.assignT rfl rfl rfl (by simp only [List.set_cons_zero, List.set_cons_succ]; rfl) ?_
           | refine Fx.pure_ rfl rfl (fun _ => by go_simp; first | done | rfl) (by simp only [List.set_cons_zero, List.set_cons_succ]; rfl) ?_)
      | (with_reducible refine Fx.lab1 ?_
         refine Fx.look rfl rfl (fun w' hC => by obtain ⟨hc, hf, hl⟩ := Ext.cells hC; go_simp; rfl) (by simp only [List.set_cons_zero, List.set_cons_succ]; rfl) ?_)
  refine Fx.look rfl rfl (op_load_Ms' (m := m) gl g0 g1 g2 rfl) (by simp only [List.set_cons_zero, List.set_cons_succ]; rfl) ?_
  first
    | refine Fx.skip rfl rfl (by simp only [List.set_cons_zero, List.set_cons_succ]; rfl) ?_
    | (with_reducible refine Fx.lab0 ?_
       first
         | refine Fx.moveT rfl rfl rfl (by simp only [List.set_cons_zero, List.set_cons_succ]; rfl) ?_
         | refine Fx.assignT rfl rfl rfl (by simp only [List.set_cons_zero, List.set_cons_succ]; rfl) ?_
         | refine Fx.pure_ rfl rfl (fun _ => by go_simp; first | done | rfl) (by simp only [List.set_cons_zero, List.set_cons_succ]; rfl) ?_)
    | (with_reducible refine Fx.lab1 ?_
       refine Fx.look rfl rfl (fun w' hC => by obtain ⟨hc, hf, hl⟩ := Ext.cells hC; go_simp; rfl) (by simp only [List.set_cons_zero, List.set_cons_succ]; rfl) ?_)
  refine Fx.look rfl rfl (op_load_Ms' (m := m) bl b2 b3 b4 rfl) (by simp only [List.set_cons_zero, List.set_cons_succ]; rfl) ?_
  refine Fx.pure_ (v := .bool false) rfl rfl (fun w => by rw [op_neq_Ms m m rfl rfl]; simp) (by simp only [List.set_cons_zero, List.set_cons_succ]; rfl) ?_
  refine Fx.done (fun w3 hC => ?_)
  have HM3 := Lib.hid (H1.out.ext hC)
  have HE3 := Lib.hid hC
  obtain ⟨xc, xf, xl⟩ := hC.cells
  replace sd' := (xc _ _ ls').trans sd'
  replace fs' := fun o => (xf _ o ls').trans (fs' o)
  clear xc xf xl hC g0 g1 g2 b2 b3 b4 c18'
  go_wp2
  go_ret
  have hfin := HM3.out.delivered (nd := nd) (by rw [Hsn.out]; exact hlt) rfl
  rw [Hsd.out, ← Hq.out] at hfin
  have H3' := H3.out
  rw [← Hq.out] at H3'
  refine ⟨rfl, _, hfin.1, ?_, fun y hy => (H3' y hy).imp id (fun h => Nat.le_trans hE.out.size h)⟩
  have a1 := (H2.out.then_ HE3.out).after hE.out
  rw [← Hq.out] at a1
  refine a1.trans hfin.2 (fun c hc h => ?_)
  rcases h with h | h | h | h
  · exact .inl h
  · exact .inr (.inl h)
  · exact .inr (.inr (.inl h))
  · rcases H3' c h with h | h
    · exact .inr (.inr (.inr h))
    · have := hE.out.size; omega
end Go.Proofs.Ytfnchpjiebojiaa
