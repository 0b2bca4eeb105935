/-
  (*model.Model).accept: when it answers true, and what it does then.
-/
import Derived.Test.YtfnchpjiebojiaaObj
namespace Go.Proofs.Ytfnchpjiebojiaa
open Go.RowKit

theorem box_Hp (w : World) (h : Hp) : Obj_ (w.alloc (.cells #[.int .i64 h.k, .int .i64 h.n, .int .i64 h.m.f, .int .u32 h.m.c, .string h.m.d] 36)) w.heap.size 5 (fun i => h.enc.getD i undef) :=
  Obj_.new w _ #[.int .i64 h.k, .int .i64 h.n, .int .i64 h.m.f, .int .u32 h.m.c, .string h.m.d] _ (by intro i hi; simp at hi; match i, hi with | 0, _ => rfl | 1, _ => rfl | 2, _ => rfl | 3, _ => rfl | 4, _ => rfl)

structure ModCells (w : World) (b sb mb : Nat) (lv : Value) (σ : MSt) : Prop where
  c0 : w.cell? ⟨b, 0, none⟩ = some (.slice (some ⟨sb, 0, none⟩) σ.n σ.n)
  c1 : w.cell? ⟨b, 1, none⟩ = some (.map (some mb))
  c18 : w.cell? ⟨b, 18, none⟩ = some lv
  cl : ∀ k, k < 16 → w.cell? ⟨b, 2 + k, none⟩ = some (.int .u32 (σ.lg k))
  sa : ∀ k, k < σ.n → w.cell? ⟨sb, k * 2, none⟩ = some (.int .u32 (σ.acc k))
  sd : ∀ k, k < σ.n → w.cell? ⟨sb, k * 2 + 1, none⟩ = some (.int .i64 (σ.del k))
  fb : ∀ o, w.frozen? ⟨b, o, none⟩ = false
  fs : ∀ o, w.frozen? ⟨sb, o, none⟩ = false
  lb : b < w.heap.size
  ls : sb < w.heap.size
  lm : mb < w.heap.size
theorem ModelAt.cells {w : World} {b sb mb : Nat} {lv : Value} {σ : MSt} (h : ModelAt w b sb mb lv σ) : ModCells w b sb mb lv σ where
  c0 := h.obj.cell 0 (by omega)
  c1 := h.obj.cell 1 (by omega)
  c18 := h.obj.cell 18 (by omega)
  cl k hk := by
    have := h.obj.cell (2 + k) (by omega)
    rw [this]; unfold modF
    rw [if_neg (by omega), if_neg (by omega), if_pos (by omega), show 2 + k - 2 = k from by omega]
  sa k hk := by
    have := h.seats.cell (k * 2) (by omega)
    rw [this]; unfold seatF
    rw [if_pos (by omega), show k * 2 / 2 = k from by omega]
  sd k hk := by
    have := h.seats.cell (k * 2 + 1) (by omega)
    rw [this]; unfold seatF
    rw [if_neg (by omega), show (k * 2 + 1) / 2 = k from by omega]
  fb := h.obj.free
  fs := h.seats.free
  lb := h.obj.lt
  ls := h.seats.lt
  lm := h.map.lt

set_option maxRecDepth 100000 in
set_option maxHeartbeats 800000 in
theorem accept_no (b sb mb : Nat) (lv : Value) (σ : MSt) (nd : Nat) (h : Hp) (w : World) (hM : ModelAt w b sb mb lv σ) (hO : σ.Ok) (hn : h.n = nd) (hlt : nd < σ.n) (hB : acceptB σ nd h.m = false) :
    Calls Try.prog 23 #[.pointer (some ⟨b, 0, none⟩), h.val] w fun e w' => e = .returned (.bool false) ∧ Ext w w' := by
  obtain ⟨k, n, m⟩ := h
  obtain ⟨f, c, d⟩ := m
  simp only at hn hB
  subst hn
  have hM1 := (hM.ext (Ext.alloc w (.cells #[.int .i64 k, .int .i64 nd, .int .i64 f, .int .u32 c, .string d] 36))).cells
  obtain ⟨c0, c1, c18, cl, sa, sd, fb, fs, lb, ls, lm⟩ := hM1
  replace sa := sa nd hlt
  have bx := box_Hp w ⟨k, nd, ⟨f, c, d⟩⟩
  have b0 := bx.cell 0 (by decide)
  have b1 := bx.cell 1 (by decide)
  have b2 := bx.cell 2 (by decide)
  have b3 := bx.cell 3 (by decide)
  have b4 := bx.cell 4 (by decide)
  have bl := bx.lt
  simp only [Hp.enc, List.getD_cons_zero, List.getD_cons_succ] at b0 b1 b2 b3 b4
  have hE := Lib.hid (Ext.alloc w (.cells #[.int .i64 k, .int .i64 nd, .int .i64 f, .int .u32 c, .string d] 36))
  have hn16 := hO.n16
  have ha1 := hO.acc1 nd
  have ha0 := hO.acc0 nd
  unfold Hp.val
  simp only
  clear cl sd bx hM hO
  unfold acceptB at hB
  simp only at hB
  generalize σ.acc nd = acc at *
  go_enter Try.func23, Try.ntmps23
  go_wp2
  generalize hW : w.alloc (.cells #[.int .i64 k, .int .i64 nd, .int .i64 f, .int .u32 c, .string d] 36) = W at *
  refine wp_region_plan [(0,0),(1,0),(2,0),(3,1),(4,0),(5,1),(6,0),(7,0)] (by kernel_rfl) (by kernel_rfl) (by kernel_rfl) (Ext W) (fun _ _ h k => h.trans k) (Ext.drawn _ _) ?_
  iterate 8
    first
      | refine Fx.skip rfl rfl (by simp only [List.set_cons_zero, List.set_cons_succ]; rfl) ?_
      | (with_reducible refine Fx.lab0 ?_
         first
           | refine Fx.moveT rfl rfl rfl (by simp only [List.set_cons_zero, List.set_cons_succ]; rfl) ?_
           | refine Fx.assignT rfl rfl rfl (by simp only [List.set_cons_zero, List.set_cons_succ]; rfl) ?_
           | refine Fx.pure_ rfl rfl (fun _ => by go_simp; first | done | rfl) (by simp only [List.set_cons_zero, List.set_cons_succ]; rfl) ?_)
      | (with_reducible refine Fx.lab1 ?_
         refine Fx.look rfl rfl (fun w' hC => by obtain ⟨hc, hf, hl⟩ := Ext.cells hC; go_simp; rfl) (by simp only [List.set_cons_zero, List.set_cons_succ]; rfl) ?_)
  refine Fx.done (fun w1 hC => ?_)
  go_wp2
  have hright := fun w' => right_ids ⟨f, c, d⟩ w'
  refine wp_region_plan [(0,0),(1,1),(2,1),(3,0),(4,0),(5,0),(6,0),(7,0),(8,1),(9,0),(10,1),(11,0),(12,0),(13,0),(14,0),(15,0),(16,0),(17,1),(18,0),(19,0),(20,0),(21,1),(22,0),(23,0),(24,0)] (by kernel_rfl) (by kernel_rfl) (by kernel_rfl) (Ext W) (fun _ _ h k => h.trans k) (hC.trans (Ext.drawn _ _)) ?_
  cases hr : rightB ⟨f, c, d⟩
  · rw [hr] at hright
    have Hr := Lib.hid hright
    clear hright hB hr hC
    first
      | refine Fx.skip rfl rfl (by simp only [List.set_cons_zero, List.set_cons_succ]; rfl) ?_
      | (with_reducible refine Fx.lab0 ?_
         first
           | refine Fx.moveT rfl rfl rfl (by simp only [List.set_cons_zero, List.set_cons_succ]; rfl) ?_
           | refine Fx.assignT rfl rfl rfl (by simp only [List.set_cons_zero, List.set_cons_succ]; rfl) ?_
           | refine Fx.pure_ rfl rfl (fun _ => by go_simp; first | done | rfl) (by simp only [List.set_cons_zero, List.set_cons_succ]; rfl) ?_)
      | (with_reducible refine Fx.lab1 ?_
         refine Fx.look rfl rfl (fun w' hC => by obtain ⟨hc, hf, hl⟩ := Ext.cells hC; go_simp; rfl) (by simp only [List.set_cons_zero, List.set_cons_succ]; rfl) ?_)
    refine Fx.look rfl rfl (op_load_Ms' (m := ⟨f, c, d⟩) bl b2 b3 b4 rfl) (by simp only [List.set_cons_zero, List.set_cons_succ]; rfl) ?_
    refine Fx.call1 (args := #[Ms.val ⟨f, c, d⟩]) rfl rfl (fun _ => by first | (go_simp; done) | (go_simp; rfl)) (fun w' hC' => Hr.out w') (by simp only [List.set_cons_zero, List.set_cons_succ]; rfl) ?_
    iterate 22
      first
        | refine Fx.skip rfl rfl (by simp only [List.set_cons_zero, List.set_cons_succ]; rfl) ?_
        | (with_reducible refine Fx.lab0 ?_
           first
             | refine Fx.moveT rfl rfl rfl (by simp only [List.set_cons_zero, List.set_cons_succ]; rfl) ?_
             | refine Fx.assignT rfl rfl rfl (by simp only [List.set_cons_zero, List.set_cons_succ]; rfl) ?_
             | refine Fx.pure_ rfl rfl (fun _ => by go_simp; first | done | rfl) (by simp only [List.set_cons_zero, List.set_cons_succ]; rfl) ?_)
        | (with_reducible refine Fx.lab1 ?_
           refine Fx.look rfl rfl (fun w' hC => by obtain ⟨hc, hf, hl⟩ := Ext.cells hC; go_simp; rfl) (by simp only [List.set_cons_zero, List.set_cons_succ]; rfl) ?_)
    refine Fx.done (fun w2 hC => ?_)
    go_wp2
    go_ret
    exact ⟨rfl, hE.out.trans hC⟩
  · rw [hr] at hright hB
    have Hr := Lib.hid hright
    clear hright hr hC
    simp only [Bool.true_and, Bool.and_eq_false_iff, decide_eq_false_iff_not] at hB
    by_cases hf : f = nd
    · obtain rfl : f = nd := hf
      have hc : c ≠ acc + 1 := by rcases hB with h | h; exact absurd rfl h; exact h
      have hw : IntKind.u32.wrap (acc + 1) = acc + 1 := IntWalk.u32_in _ ⟨by omega, by omega⟩
      have hcb : (c != acc + 1) = true := by simpa using hc
      clear hB hc
      first
        | refine Fx.skip rfl rfl (by simp only [List.set_cons_zero, List.set_cons_succ]; rfl) ?_
        | (with_reducible refine Fx.lab0 ?_
           first
             | refine Fx.moveT rfl rfl rfl (by simp only [List.set_cons_zero, List.set_cons_succ]; rfl) ?_
             | refine Fx.assignT rfl rfl rfl (by simp only [List.set_cons_zero, List.set_cons_succ]; rfl) ?_
             | refine Fx.pure_ rfl rfl (fun _ => by go_simp; first | done | rfl) (by simp only [List.set_cons_zero, List.set_cons_succ]; rfl) ?_)
        | (with_reducible refine Fx.lab1 ?_
           refine Fx.look rfl rfl (fun w' hC => by obtain ⟨hc, hf, hl⟩ := Ext.cells hC; go_simp; rfl) (by simp only [List.set_cons_zero, List.set_cons_succ]; rfl) ?_)
      refine Fx.look rfl rfl (op_load_Ms' (m := ⟨(nd : Int), c, d⟩) bl b2 b3 b4 rfl) (by simp only [List.set_cons_zero, List.set_cons_succ]; rfl) ?_
      refine Fx.call1 (args := #[Ms.val ⟨(nd : Int), c, d⟩]) rfl rfl (fun _ => by first | (go_simp; done) | (go_simp; rfl)) (fun w' hC' => Hr.out w') (by simp only [List.set_cons_zero, List.set_cons_succ]; rfl) ?_
      iterate 22
        first
          | refine Fx.skip rfl rfl (by simp only [List.set_cons_zero, List.set_cons_succ]; rfl) ?_
          | (with_reducible refine Fx.lab0 ?_
             first
               | refine Fx.moveT rfl rfl rfl (by simp only [List.set_cons_zero, List.set_cons_succ]; rfl) ?_
               | refine Fx.assignT rfl rfl rfl (by simp only [List.set_cons_zero, List.set_cons_succ]; rfl) ?_
               | refine Fx.pure_ rfl rfl (fun _ => by go_simp; first | done | rfl) (by simp only [List.set_cons_zero, List.set_cons_succ]; rfl) ?_)
          | (with_reducible refine Fx.lab1 ?_
             refine Fx.look rfl rfl (fun w' hC => by obtain ⟨hc, hf, hl⟩ := Ext.cells hC; go_simp; rfl) (by simp only [List.set_cons_zero, List.set_cons_succ]; rfl) ?_)
      refine Fx.done (fun w2 hC => ?_)
      go_wp2
      go_ret
      exact ⟨rfl, hE.out.trans hC⟩
    · have hfb : (f != (nd : Int)) = true := by simpa using hf
      clear hB hf
      first
        | refine Fx.skip rfl rfl (by simp only [List.set_cons_zero, List.set_cons_succ]; rfl) ?_
        | (with_reducible refine Fx.lab0 ?_
           first
             | refine Fx.moveT rfl rfl rfl (by simp only [List.set_cons_zero, List.set_cons_succ]; rfl) ?_
             | refine Fx.assignT rfl rfl rfl (by simp only [List.set_cons_zero, List.set_cons_succ]; rfl) ?_
             | refine Fx.pure_ rfl rfl (fun _ => by go_simp; first | done | rfl) (by simp only [List.set_cons_zero, List.set_cons_succ]; rfl) ?_)
        | (with_reducible refine Fx.lab1 ?_
           refine Fx.look rfl rfl (fun w' hC => by obtain ⟨hc, hf, hl⟩ := Ext.cells hC; go_simp; rfl) (by simp only [List.set_cons_zero, List.set_cons_succ]; rfl) ?_)
      refine Fx.look rfl rfl (op_load_Ms' (m := ⟨f, c, d⟩) bl b2 b3 b4 rfl) (by simp only [List.set_cons_zero, List.set_cons_succ]; rfl) ?_
      refine Fx.call1 (args := #[Ms.val ⟨f, c, d⟩]) rfl rfl (fun _ => by first | (go_simp; done) | (go_simp; rfl)) (fun w' hC' => Hr.out w') (by simp only [List.set_cons_zero, List.set_cons_succ]; rfl) ?_
      iterate 22
        first
          | refine Fx.skip rfl rfl (by simp only [List.set_cons_zero, List.set_cons_succ]; rfl) ?_
          | (with_reducible refine Fx.lab0 ?_
             first
               | refine Fx.moveT rfl rfl rfl (by simp only [List.set_cons_zero, List.set_cons_succ]; rfl) ?_
               | refine Fx.assignT rfl rfl rfl (by simp only [List.set_cons_zero, List.set_cons_succ]; rfl) ?_
               | refine Fx.pure_ rfl rfl (fun _ => by go_simp; first | done | rfl) (by simp only [List.set_cons_zero, List.set_cons_succ]; rfl) ?_)
          | (with_reducible refine Fx.lab1 ?_
             refine Fx.look rfl rfl (fun w' hC => by obtain ⟨hc, hf, hl⟩ := Ext.cells hC; go_simp; rfl) (by simp only [List.set_cons_zero, List.set_cons_succ]; rfl) ?_)
      refine Fx.done (fun w2 hC => ?_)
      go_wp2
      go_ret
      exact ⟨rfl, hE.out.trans hC⟩

theorem ModelAt.accepted {w w1 w2 : World} {b sb mb : Nat} {lv : Value} {σ : MSt} {nd : Nat} {m : Ms} (hM : ModelAt w b sb mb lv σ) (hlt : nd < σ.n) (h1 : w1 = w.setCell ⟨sb, nd * 2, none⟩ (.int .u32 (σ.acc nd + 1)))
    (h2 : MapIs w2 mb idV Ms.val (kput (m.f, m.c) m σ.wt)) (h3 : Mods (· = mb) w1 w2) : ModelAt w2 b sb mb lv (acceptS σ nd m) ∧ Mods (FM b sb mb lv) w w2 := by
  have hm1 : Mods (· = sb) w w1 := by rw [h1]; exact Mods.setCell _ _ _ _
  refine ⟨⟨?_, ?_, h2, ?_, hM.d1, hM.d2, hM.d3, hM.d4⟩, ?_⟩
  · exact (hM.obj.mods hm1 hM.d1).mods h3 hM.d2
  · refine (Obj_.mods (f := upd (seatF σ.acc σ.del) (nd * 2) (.int .u32 (σ.acc nd + 1))) ?_ h3 hM.d3).congr fun i hi => ?_
    · rw [h1]; exact hM.seats.set (by omega) _
    · unfold upd seatF acceptS updI
      simp only
      by_cases hi2 : i = nd * 2
      · subst hi2; rw [if_pos rfl, if_pos (by omega), if_pos (by omega)]
      · rw [if_neg hi2]
        by_cases h0 : i % 2 = 0
        · rw [if_pos h0, if_pos h0, if_neg (by omega)]
        · rw [if_neg h0, if_neg h0]
  · exact (hM.log.mods hm1 (fun x hx => (hM.d4 x hx).2.1)).mods h3 (fun x hx => (hM.d4 x hx).2.2)
  · refine (hm1.mono (fun x _ hx => .inr (.inl hx))).trans h3 (fun x _ hx => .inr (.inr (.inl hx)))

set_option maxRecDepth 100000 in
set_option maxHeartbeats 800000 in
theorem accept_yes (b sb mb : Nat) (lv : Value) (σ : MSt) (nd : Nat) (h : Hp) (w : World) (hM : ModelAt w b sb mb lv σ) (hO : σ.Ok) (hn : h.n = nd) (hlt : nd < σ.n) (hB : acceptB σ nd h.m = true) :
    Calls Try.prog 23 #[.pointer (some ⟨b, 0, none⟩), h.val] w fun e w' => e = .returned (.bool true) ∧ ModelAt w' b sb mb lv (acceptS σ nd h.m) ∧ Mods (FM b sb mb lv) w w' := by
  obtain ⟨k, n, m⟩ := h
  obtain ⟨f, c, d⟩ := m
  simp only at hn hB
  subst hn
  have hE0 := Ext.alloc w (.cells #[.int .i64 k, .int .i64 nd, .int .i64 f, .int .u32 c, .string d] 36)
  have hM1 := hM.ext hE0
  have HM := Lib.hid hM1
  have hM1 := hM1.cells
  obtain ⟨c0, c1, c18, cl, sa, sd, fb, fs, lb, ls, lm⟩ := hM1
  replace sa := sa nd hlt
  have bx := box_Hp w ⟨k, nd, ⟨f, c, d⟩⟩
  have b0 := bx.cell 0 (by decide)
  have b1 := bx.cell 1 (by decide)
  have b2 := bx.cell 2 (by decide)
  have b3 := bx.cell 3 (by decide)
  have b4 := bx.cell 4 (by decide)
  have bl := bx.lt
  have bf := bx.free
  have ls0 := hM.seats.lt
  simp only [Hp.enc, List.getD_cons_zero, List.getD_cons_succ] at b0 b1 b2 b3 b4
  have hE := Lib.hid hE0
  have hn16 := hO.n16
  have ha1 := hO.acc1 nd
  have ha0 := hO.acc0 nd
  unfold Hp.val
  simp only
  have Hσ : ∃ acc, σ.acc nd = acc := ⟨_, rfl⟩
  obtain ⟨acc, hacc⟩ := Hσ
  rw [hacc] at sa ha1 ha0
  clear cl sd bx hM hO
  unfold acceptB at hB
  simp only [Bool.and_eq_true, decide_eq_true_eq] at hB
  obtain ⟨hr, hf, hc⟩ := hB
  subst hf
  rw [hacc] at hc
  have Hacc := Lib.hid hacc
  clear hacc hE0
  subst hc
  go_enter Try.func23, Try.ntmps23
  go_wp2
  generalize hW : w.alloc (.cells #[.int .i64 k, .int .i64 nd, .int .i64 nd, .int .u32 (acc + 1), .string d] 36) = W at *
  refine wp_region_plan [(0,0),(1,0),(2,0),(3,1),(4,0),(5,1),(6,0),(7,0)] (by kernel_rfl) (by kernel_rfl) (by kernel_rfl) (Ext W) (fun _ _ h k => h.trans k) (Ext.drawn _ _) ?_
  iterate 8
    first
      | refine Fx.skip rfl rfl (by simp only [List.set_cons_zero, List.set_cons_succ]; rfl) ?_
      | (with_reducible refine Fx.lab0 ?_
         first
           | refine Fx.moveT rfl rfl rfl (by simp only [List.set_cons_zero, List.set_cons_succ]; rfl) ?_
           | refine Fx.assignT rfl rfl rfl (by simp only [List.set_cons_zero, List.set_cons_succ]; rfl) ?_
           | refine Fx.pure_ rfl rfl (fun _ => by go_simp; first | done | rfl) (by simp only [List.set_cons_zero, List.set_cons_succ]; rfl) ?_)
      | (with_reducible refine Fx.lab1 ?_
         refine Fx.look rfl rfl (fun w' hC => by obtain ⟨hc, hf, hl⟩ := Ext.cells hC; go_simp; rfl) (by simp only [List.set_cons_zero, List.set_cons_succ]; rfl) ?_)
  refine Fx.done (fun w1 hC => ?_)
  go_wp2
  have hright := fun w' => right_ids ⟨nd, acc + 1, d⟩ w'
  refine wp_region_plan [(0,0),(1,1),(2,1),(3,0),(4,0),(5,0),(6,0),(7,0),(8,1),(9,0),(10,1),(11,0),(12,0),(13,0),(14,0),(15,0),(16,0),(17,1),(18,0),(19,0),(20,0),(21,1),(22,0),(23,0),(24,0)] (by kernel_rfl) (by kernel_rfl) (by kernel_rfl) (Ext W) (fun _ _ h k => h.trans k) (hC.trans (Ext.drawn _ _)) ?_
  rw [hr] at hright
  have Hr := Lib.hid hright
  clear hright hr hC
  have hw : IntKind.u32.wrap (acc + 1) = acc + 1 := IntWalk.u32_in _ ⟨by omega, by omega⟩
  first
    | refine Fx.skip rfl rfl (by simp only [List.set_cons_zero, List.set_cons_succ]; rfl) ?_
    | (with_reducible refine Fx.lab0 ?_
       first
         | refine Fx.moveT rfl rfl rfl (by simp only [List.set_cons_zero, List.set_cons_succ]; rfl) ?_
         | refine Fx.assignT rfl rfl rfl (by simp only [List.set_cons_zero, List.set_cons_succ]; rfl) ?_
         | refine Fx.pure_ rfl rfl (fun _ => by go_simp; first | done | rfl) (by simp only [List.set_cons_zero, List.set_cons_succ]; rfl) ?_)
    | (with_reducible refine Fx.lab1 ?_
       refine Fx.look rfl rfl (fun w' hC => by obtain ⟨hc, hf, hl⟩ := Ext.cells hC; go_simp; rfl) (by simp only [List.set_cons_zero, List.set_cons_succ]; rfl) ?_)
  refine Fx.look rfl rfl (op_load_Ms' (m := ⟨(nd : Int), acc + 1, d⟩) bl b2 b3 b4 rfl) (by simp only [List.set_cons_zero, List.set_cons_succ]; rfl) ?_
  refine Fx.call1 (args := #[Ms.val ⟨(nd : Int), acc + 1, d⟩]) rfl rfl (fun _ => by first | (go_simp; done) | (go_simp; rfl)) (fun w' hC' => Hr.out w') (by simp only [List.set_cons_zero, List.set_cons_succ]; rfl) ?_
  iterate 22
    first
      | refine Fx.skip rfl rfl (by simp only [List.set_cons_zero, List.set_cons_succ]; rfl) ?_
      | (with_reducible refine Fx.lab0 ?_
         first
           | refine Fx.moveT rfl rfl rfl (by simp only [List.set_cons_zero, List.set_cons_succ]; rfl) ?_
           | refine Fx.assignT rfl rfl rfl (by simp only [List.set_cons_zero, List.set_cons_succ]; rfl) ?_
           | refine Fx.pure_ rfl rfl (fun _ => by go_simp; first | done | rfl) (by simp only [List.set_cons_zero, List.set_cons_succ]; rfl) ?_)
      | (with_reducible refine Fx.lab1 ?_
         refine Fx.look rfl rfl (fun w' hC => by obtain ⟨hc, hf, hl⟩ := Ext.cells hC; go_simp; rfl) (by simp only [List.set_cons_zero, List.set_cons_succ]; rfl) ?_)
  refine Fx.done (fun w2 hC => ?_)
  have HM2 := Lib.hid (HM.out.ext hC)
  have hx := hC.cells
  obtain ⟨xc, xf, xl⟩ := hx
  have hxs := Lib.hid hC
  clear hC
  go_wp2
  have hMs := (Mods.setCell w2 sb (nd * 2) (.int .u32 (acc + 1))).cells
  obtain ⟨w3, hw3⟩ : ∃ w3, w2.setCell ⟨sb, nd * 2, none⟩ (.int .u32 (acc + 1)) = w3 := ⟨_, rfl⟩
  rw [hw3] at hMs ⊢
  have hbs : b ≠ sb := HM.out.d1
  have hbx : w.heap.size ≠ sb := fun e => by have := ls0; omega
  have d1 := (hMs.1 b 1 (xl _ lb) hbs).trans ((xc _ 1 lb).trans c1)
  have e2 := (hMs.1 w.heap.size 2 (xl _ bl) hbx).trans ((xc _ 2 bl).trans b2)
  have e3 := (hMs.1 w.heap.size 3 (xl _ bl) hbx).trans ((xc _ 3 bl).trans b3)
  have e4 := (hMs.1 w.heap.size 4 (xl _ bl) hbx).trans ((xc _ 4 bl).trans b4)
  have l1 := hMs.2.2 b (xl _ lb)
  have l2 := hMs.2.2 w.heap.size (xl _ bl)
  have HW3 := Lib.hid hw3
  have HMap := Lib.hid (HM2.out.map.mods (S := (· = sb)) (w' := w3) (by rw [← hw3]; exact Mods.setCell _ _ _ _) (fun e => HM2.out.d3 e.symm))
  clear hMs hw3 c0 c1 c18 sa fb fs lb ls lm b0 b1 b2 b3 b4 xc xf xl ha0 ha1 hn16 hw hW
  refine wp_region_plan [(0,0),(1,0),(2,0),(3,1),(4,0),(5,0),(6,1),(7,0),(8,1),(9,3)] (by kernel_rfl) (by kernel_rfl) (by kernel_rfl) (Ext w3) (fun _ _ h k => h.trans k) (Ext.drawn _ _) ?_
  iterate 6
    first
      | refine Fx.skip rfl rfl (by simp only [List.set_cons_zero, List.set_cons_succ]; rfl) ?_
      | (with_reducible refine Fx.lab0 ?_
         first
           | refine Fx.moveT rfl rfl rfl (by simp only [List.set_cons_zero, List.set_cons_succ]; rfl) ?_
           | refine Fx.assignT rfl rfl rfl (by simp only [List.set_cons_zero, List.set_cons_succ]; rfl) ?_
           | refine Fx.pure_ rfl rfl (fun _ => by go_simp; first | done | rfl) (by simp only [List.set_cons_zero, List.set_cons_succ]; rfl) ?_)
      | (with_reducible refine Fx.lab1 ?_
         refine Fx.look rfl rfl (fun w' hC => by obtain ⟨hc, hf, hl⟩ := Ext.cells hC; go_simp; rfl) (by simp only [List.set_cons_zero, List.set_cons_succ]; rfl) ?_)
  refine Fx.look rfl rfl (op_load_Id' l2 e2 e3 rfl) (by simp only [List.set_cons_zero, List.set_cons_succ]; rfl) ?_
  first
    | refine Fx.skip rfl rfl (by simp only [List.set_cons_zero, List.set_cons_succ]; rfl) ?_
    | (with_reducible refine Fx.lab0 ?_
       first
         | refine Fx.moveT rfl rfl rfl (by simp only [List.set_cons_zero, List.set_cons_succ]; rfl) ?_
         | refine Fx.assignT rfl rfl rfl (by simp only [List.set_cons_zero, List.set_cons_succ]; rfl) ?_
         | refine Fx.pure_ rfl rfl (fun _ => by go_simp; first | done | rfl) (by simp only [List.set_cons_zero, List.set_cons_succ]; rfl) ?_)
    | (with_reducible refine Fx.lab1 ?_
       refine Fx.look rfl rfl (fun w' hC => by obtain ⟨hc, hf, hl⟩ := Ext.cells hC; go_simp; rfl) (by simp only [List.set_cons_zero, List.set_cons_succ]; rfl) ?_)
  refine Fx.look rfl rfl (op_load_Ms' (m := ⟨(nd : Int), acc + 1, d⟩) l2 e2 e3 e4 rfl) (by simp only [List.set_cons_zero, List.set_cons_succ]; rfl) ?_
  refine Fx.eff0 (fun w' => MapIs w' mb idV Ms.val (kput ((nd : Int), acc + 1) ⟨nd, acc + 1, d⟩ σ.wt) ∧ Mods (· = mb) w3 w') (fun _ _ h k => ⟨h.1.ext k, h.2.then_ k⟩) rfl rfl (fun w' hC => ?_) ?_
  · refine stepAt_mono (stepAt_upd (k := ((nd : Int), acc + 1)) (v := ⟨nd, acc + 1, d⟩) (HMap.out.ext hC) keysId Try.underlying63 rfl rfl rfl) (fun _ w'' hh => ⟨hh.1, hh.2.after hC⟩)
  refine Fx.done (fun w4 hC => ?_)
  have HC := Lib.hid hC
  clear hC
  go_wp2
  go_ret
  have hA := HM2.out.accepted (nd := nd) (m := ⟨nd, acc + 1, d⟩) hlt (by rw [Hacc.out]; exact HW3.out.symm) HC.out.1 HC.out.2
  exact ⟨rfl, hA.1, hA.2.after (hE.out.trans hxs.out)⟩
end Go.Proofs.Ytfnchpjiebojiaa
