/-
  (*model.Model).deliver.
-/
import Derived.Test.YtfnchpjiebojiaaLay
namespace Go.Proofs.Ytfnchpjiebojiaa
open Go.RowKit

def delS (σ : MSt) (nd : Nat) : MSt := { σ with del := updI σ.del nd (σ.del nd + 1) }
/-- What deliver answers, and the state behind it. -/
def deliverB (σ : MSt) (nd : Nat) (m : Ms) : Bool := if σ.del nd = σ.log.length then layB σ m else decide (σ.log[σ.del nd]? = some m)
def deliverS (σ : MSt) (nd : Nat) (m : Ms) : MSt := delS (if σ.del nd = σ.log.length then layS σ m else σ) nd
def DeliverR (b sb mb : Nat) (lv : Value) (σ' : MSt) (r : Bool) (w : World) (e : Ending) (w' : World) : Prop :=
  e = .returned (.bool r) ∧ ∃ lv', ModelAt w' b sb mb lv' σ' ∧ Mods (FM b sb mb lv) w w' ∧ ∀ y, lv'.ownBlock = some y → lv.ownBlock = some y ∨ w.heap.size ≤ y

theorem ModelAt.delivered {w w' : World} {b sb mb : Nat} {lv : Value} {σ : MSt} {nd : Nat} (hM : ModelAt w b sb mb lv σ) (hlt : nd < σ.n) (h1 : w' = w.setCell ⟨sb, nd * 2 + 1, none⟩ (.int .i64 (σ.del nd + 1))) :
    ModelAt w' b sb mb lv (delS σ nd) ∧ Mods (FM b sb mb lv) w w' := by
  have hm1 : Mods (· = sb) w w' := by rw [h1]; exact Mods.setCell _ _ _ _
  refine ⟨⟨hM.obj.mods hm1 hM.d1, ?_, hM.map.mods hm1 (fun e => hM.d3 e.symm), hM.log.mods hm1 (fun x hx => (hM.d4 x hx).2.1), hM.d1, hM.d2, hM.d3, hM.d4⟩, hm1.mono (fun x _ hx => .inr (.inl hx))⟩
  rw [h1]
  refine (hM.seats.set (by omega) _).congr fun i hi => ?_
  unfold upd seatF delS updI
  simp only
  by_cases hi2 : i = nd * 2 + 1
  · subst hi2; rw [if_pos rfl, if_neg (by omega), if_pos (by omega)]; simp
  · rw [if_neg hi2]
    by_cases h0 : i % 2 = 0
    · rw [if_pos h0, if_pos h0]
    · rw [if_neg h0, if_neg h0, if_neg (by omega)]

/-- The one place of the log that is looked at. -/
theorem ModelAt.logCell {w : World} {b sb mb : Nat} {lv : Value} {σ : MSt} (hM : ModelAt w b sb mb lv σ) {j : Nat} (hj : j < σ.log.length) :
    ∃ g cap, lv = .slice (some ⟨g, 0, none⟩) σ.log.length cap ∧ g < w.heap.size ∧ w.cell? ⟨g, j * 3, none⟩ = some (.int .i64 σ.log[j].f) ∧ w.cell? ⟨g, j * 3 + 1, none⟩ = some (.int .u32 σ.log[j].c) ∧ w.cell? ⟨g, j * 3 + 2, none⟩ = some (.string σ.log[j].d) := by
  have h := hM.log
  rcases h.2 with ⟨_, hl⟩ | ⟨g, cap, cur, rfl, _⟩
  · omega
  · obtain ⟨g', off, e, hlt, h0, h1, h2⟩ := Sl.at3 (h.sl Ms.len) hj
    injection e with e
    injection e with e1 e2
    subst e1; subst e2
    exact ⟨g, cap, rfl, hlt, by simpa using h0, by simpa using h1, by simpa using h2⟩

set_option maxRecDepth 100000 in
set_option maxHeartbeats 1600000 in
/-- Behind the first test: the log's place is held against the message. -/
theorem deliver_old (b sb mb : Nat) (lv : Value) (σ : MSt) (nd : Nat) (h : Hp) (w : World) (hM : ModelAt w b sb mb lv σ) (hO : σ.Ok) (hn : h.n = nd) (hlt : nd < σ.n) (hlen : σ.log.length ≤ 1000000) (hd : σ.del nd < σ.log.length) (r : Bool) (hr : decide (σ.log[σ.del nd]? = some h.m) = r) (σ' : MSt) (Hs : Hid ((if r = true then delS σ nd else σ) = σ')) :
    Calls Try.prog 25 #[.pointer (some ⟨b, 0, none⟩), h.val] w (DeliverR b sb mb lv σ' r w) := by
  obtain ⟨k, n, m⟩ := h
  simp only at hn hr
  subst hn
  have hE0 := Ext.alloc w (.cells #[.int .i64 k, .int .i64 nd, .int .i64 m.f, .int .u32 m.c, .string m.d] 36)
  have hM0 := hM.ext hE0
  have HM0 := Lib.hid hM0
  obtain ⟨g, gcap, rfl, gl, g0, g1, g2⟩ := hM0.logCell hd
  obtain ⟨c0, c1, c18, cl, sa, sd, fb, fs, lb, ls, lm⟩ := hM0.cells
  replace sd := sd nd hlt
  have bx := box_Hp w ⟨k, nd, m⟩
  have b0 := bx.cell 0 (by decide)
  have b1 := bx.cell 1 (by decide)
  have b2 := bx.cell 2 (by decide)
  have b3 := bx.cell 3 (by decide)
  have b4 := bx.cell 4 (by decide)
  have bl := bx.lt
  simp only [Hp.enc, List.getD_cons_zero, List.getD_cons_succ] at b0 b1 b2 b3 b4
  have hE := Lib.hid hE0
  have hn16 := hO.n16
  have hget : σ.log[σ.del nd]? = some σ.log[σ.del nd] := List.getElem?_eq_getElem hd
  rw [hget] at hr
  have Hd := Lib.hid hd
  have hdn : ((σ.del nd : Int) == (σ.log.length : Int)) = false := by simp; omega
  have hdi : (σ.del nd : Int) < σ.log.length := by omega
  have hdi0 : (σ.del nd : Int) ≤ 1000000 := by omega
  unfold Hp.val
  simp only
  clear bx hM hO hE0 hM0 cl sa fb hget
  generalize σ.log[σ.del nd] = y at *
  have Hdel : ∃ q, σ.del nd = q := ⟨_, rfl⟩
  obtain ⟨q, hq⟩ := Hdel
  rw [hq] at sd g0 g1 g2 hdn hdi hdi0
  have Hq := Lib.hid hq
  clear hq hd
  have Hr := Lib.hid hr
  clear hr
  go_enter Try.func25, Try.ntmps25
  go_wp2
  generalize hW : w.alloc (.cells #[.int .i64 k, .int .i64 nd, .int .i64 m.f, .int .u32 m.c, .string m.d] 36) = W at *
  refine wp_region_plan [(0,0),(1,0),(2,0),(3,1),(4,0),(5,1),(6,0),(7,0)] (by kernel_rfl) (by kernel_rfl) (by kernel_rfl) (Ext W) (fun _ _ h k => h.trans k) (Ext.drawn _ _) ?_
  iterate 8
    first
      | refine Fx.skip rfl rfl (by simp only [List.set_cons_zero, List.set_cons_succ]; rfl) ?_
      | (with_reducible refine Fx.lab0 ?_
         first
           | refine Fx.moveT rfl rfl rfl (by simp only [List.set_cons_zero, List.set_cons_succ]; rfl) ?_
           | refine Fx.assignT rfl rfl rfl (by simp only [List.set_cons_zero, List.set_cons_succ]; rfl) ?_
           | refine Fx.pure_ rfl rfl (fun _ => by go_simp; first | done | rfl) (by simp only [List.set_cons_zero, List.set_cons_succ]; rfl) ?_)
      | (with_reducible refine Fx.lab1 ?_
         refine Fx.look rfl rfl (fun w' hC => by obtain ⟨hc, hf, hl⟩ := Ext.cells hC; go_simp; rfl) (by simp only [List.set_cons_zero, List.set_cons_succ]; rfl) ?_)
  refine Fx.done (fun w1 hC => ?_)
  go_wp2
  refine wp_region_plan [(0,0),(1,0),(2,0),(3,1),(4,0),(5,0),(6,0),(7,1),(8,0),(9,0),(10,0),(11,0),(12,0),(13,1),(14,1),(15,0),(16,0)] (by kernel_rfl) (by kernel_rfl) (by kernel_rfl) (Ext W) (fun _ _ h k => h.trans k) (hC.trans (Ext.drawn _ _)) ?_
  clear hC
  iterate 17
    first
      | refine Fx.skip rfl rfl (by simp only [List.set_cons_zero, List.set_cons_succ]; rfl) ?_
      | (with_reducible refine Fx.lab0 ?_
         first
           | refine Fx.moveT rfl rfl rfl (by simp only [List.set_cons_zero, List.set_cons_succ]; rfl) ?_
           | refine Fx.assignT rfl rfl rfl (by simp only [List.set_cons_zero, List.set_cons_succ]; rfl) ?_
           | refine Fx.pure_ rfl rfl (fun _ => by go_simp; first | done | rfl) (by simp only [List.set_cons_zero, List.set_cons_succ]; rfl) ?_)
      | (with_reducible refine Fx.lab1 ?_
         refine Fx.look rfl rfl (fun w' hC => by obtain ⟨hc, hf, hl⟩ := Ext.cells hC; go_simp; rfl) (by simp only [List.set_cons_zero, List.set_cons_succ]; rfl) ?_)
  refine Fx.done (fun w2 hC => ?_)
  go_wp2
  refine wp_region_plan [(0,0),(1,0),(2,0),(3,1),(4,0),(5,0),(6,0),(7,1),(8,0),(9,1),(10,0),(11,1),(12,0)] (by kernel_rfl) (by kernel_rfl) (by kernel_rfl) (Ext W) (fun _ _ h k => h.trans k) (hC.trans (Ext.drawn _ _)) ?_
  clear hC
  iterate 9
    first
      | refine Fx.skip rfl rfl (by simp only [List.set_cons_zero, List.set_cons_succ]; rfl) ?_
      | (with_reducible refine Fx.lab0 ?_
         first
           | refine Fx.moveT rfl rfl rfl (by simp only [List.set_cons_zero, List.set_cons_succ]; rfl) ?_
           | refine Fx.assignT rfl rfl rfl (by simp only [List.set_cons_zero, List.set_cons_succ]; rfl) ?_
           | refine Fx.pure_ rfl rfl (fun _ => by go_simp; first | done | rfl) (by simp only [List.set_cons_zero, List.set_cons_succ]; rfl) ?_)
      | (with_reducible refine Fx.lab1 ?_
         refine Fx.look rfl rfl (fun w' hC => by obtain ⟨hc, hf, hl⟩ := Ext.cells hC; go_simp; rfl) (by simp only [List.set_cons_zero, List.set_cons_succ]; rfl) ?_)
  refine Fx.look rfl rfl (op_load_Ms' (m := y) gl g0 g1 g2 rfl) (by simp only [List.set_cons_zero, List.set_cons_succ]; rfl) ?_
  first
    | refine Fx.skip rfl rfl (by simp only [List.set_cons_zero, List.set_cons_succ]; rfl) ?_
    | (with_reducible refine Fx.lab0 ?_
       first
         | refine Fx.moveT rfl rfl rfl (by simp only [List.set_cons_zero, List.set_cons_succ]; rfl) ?_
         | refine Fx.assignT rfl rfl rfl (by simp only [List.set_cons_zero, List.set_cons_succ]; rfl) ?_
         | refine Fx.pure_ rfl rfl (fun _ => by go_simp; first | done | rfl) (by simp only [List.set_cons_zero, List.set_cons_succ]; rfl) ?_)
    | (with_reducible refine Fx.lab1 ?_
       refine Fx.look rfl rfl (fun w' hC => by obtain ⟨hc, hf, hl⟩ := Ext.cells hC; go_simp; rfl) (by simp only [List.set_cons_zero, List.set_cons_succ]; rfl) ?_)
  refine Fx.look rfl rfl (op_load_Ms' (m := m) bl b2 b3 b4 rfl) (by simp only [List.set_cons_zero, List.set_cons_succ]; rfl) ?_
  refine Fx.pure_ (v := .bool (!r)) rfl rfl (fun w => by rw [op_neq_Ms y m rfl rfl, ← Hr.out]; simp) (by simp only [List.set_cons_zero, List.set_cons_succ]; rfl) ?_
  refine Fx.done (fun w3 hC => ?_)
  have HM3 := Lib.hid (HM0.out.ext hC)
  have HE3 := Lib.hid (hE.out.trans hC)
  obtain ⟨xc, xf, xl⟩ := hC.cells
  replace sd := (xc _ _ ls).trans sd
  replace fs := fun o => (xf _ o ls).trans (fs o)
  clear xc xf xl hC g0 g1 g2 b0 b1 b2 b3 b4 c0 c1 c18
  cases r
  · simp only [Bool.not_false]
    go_wp2
    go_ret
    have e := Hs.out
    simp only [Bool.false_eq_true, if_false] at e
    subst e
    exact ⟨rfl, _, HM3.out, HE3.out.mods _, fun y hy => .inl hy⟩
  · simp only [Bool.not_true]
    go_wp2
    go_ret
    have e := Hs.out
    simp only [if_true] at e
    subst e
    have hfin := HM3.out.delivered (nd := nd) hlt rfl
    rw [Hq.out] at hfin
    exact ⟨rfl, _, hfin.1, hfin.2.after HE3.out, fun y hy => .inl hy⟩
end Go.Proofs.Ytfnchpjiebojiaa
