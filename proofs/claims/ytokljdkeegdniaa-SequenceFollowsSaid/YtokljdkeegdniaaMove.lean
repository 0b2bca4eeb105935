/-
  sequence.Follower: Move, to an epoch ahead.
-/
import Derived.Test.YtokljdkeegdniaaRel
namespace Go.Proofs.Ytokljdkeegdniaa
open Go.RowKit
attribute [local go_sem] Oper.semAt_some

def MoveR (w : World) (b mw mb : Nat) (σ : FwSt) (t : Int) (e : Ending) (w' : World) : Prop :=
  ∃ nv, e = .returned (.tuple #[nv, .int .i64 0]) ∧ OwnMs w' nv (moveL σ t) ∧ FwAt w' b mw mb (moveS σ t) ∧ Mods (FF b mw mb) w w' ∧ ∀ x, nv.ownBlock = some x → w.heap.size ≤ x
set_option maxRecDepth 100000 in
set_option maxHeartbeats 3200000 in
theorem move_ahead {w : World} {b mw mb : Nat} {σ : FwSt} (h : FwAt w b mw mb σ) (hnd : (σ.bf.map (·.1)).Nodup) (hlen : σ.bf.length ≤ 999999) (t : Int) (ht : σ.ep < t) :
    Calls Try.prog 12 #[.pointer (some ⟨b, 0, none⟩), .int .u32 t] w (MoveR w b mw mb σ t) := by
  have H := Lib.hid h
  have HN := Lib.hid hnd
  have HLn := Lib.hid hlen
  obtain ⟨ep, hep⟩ : ∃ ep, σ.ep = ep := ⟨_, rfl⟩
  have hc := h.cells.1
  rw [hep] at ht hc
  have Hc := Lib.hid hc
  have hd : decide (t ≤ ep) = false := by simp; omega
  clear h hep hc hnd hlen
  go_enter Try.func12, Try.ntmps12
  go_upto_region 6 with (first
    | (go_at_call 25; refine (isNil_at H.out).mono ?_; rintro e w2 ⟨rfl, hw⟩; replace hw := hw.symm; subst hw)
    | (go_at_call 26; refine (era_in Hc.out).mono ?_; rintro e w3 ⟨rfl, hw⟩; replace hw := hw.symm; subst hw)
    | (go_at_call 27; refine (era_enter H.out t).mono ?_; rintro e w1 ⟨⟨v, rfl⟩, hF, hM⟩; have HF := Lib.hid hF; have HM := Lib.hid hM; clear hF hM))
  obtain ⟨-, c1, -, -, lb⟩ := HF.out.cells
  have f1 := HF.out.o.free 1
  go_upto_region 7 with fail
  obtain ⟨W, hW⟩ : ∃ W, w1.setCell ⟨b, 1, none⟩ (.int .u32 1) = W := ⟨_, rfl⟩
  have HF2 : Hid (FwAt W b mw mb { σ with ep := t, nx := 1 }) := Lib.hid (HF.out.setN 1 (by rw [hW]; exact Ext.refl _))
  have HM2 : Hid (Mods (FF b mw mb) w W) := Lib.hid (HM.out.trans (T := (· = b)) (by rw [← hW]; exact Mods.setCell w1 b 1 _) (fun _ _ h => .inl h))
  clear hd c1 f1 lb
  rw [hW]
  clear hW HM HF
  obtain ⟨-, -, c2, -, lb⟩ := HF2.out.cells
  refine wp_region_line [(0,0),(1,0),(2,0),(3,1),(4,3)] (by kernel_rfl) (by kernel_rfl) (Ext W) (fun _ _ h k => h.trans k) (Ext.refl _) ?_
  iterate 4
    first
      | refine Fx.skip rfl rfl (by simp only [List.set_cons_zero, List.set_cons_succ]; rfl) ?_
      | (with_reducible refine Fx.lab0 ?_
         first
           | refine Fx.moveT rfl rfl rfl (by simp only [List.set_cons_zero, List.set_cons_succ]; rfl) ?_
           | refine Fx.assignT rfl rfl rfl (by simp only [List.set_cons_zero, List.set_cons_succ]; rfl) ?_
           | refine Fx.pure_ rfl rfl (fun _ => by go_simp; first | done | rfl) (by simp only [List.set_cons_zero, List.set_cons_succ]; rfl) ?_)
      | (with_reducible refine Fx.lab1 ?_
         refine Fx.look rfl rfl (fun w' hC => by obtain ⟨hc, hf, hl⟩ := Ext.cells hC; go_simp; rfl) (by simp only [List.set_cons_zero, List.set_cons_succ]; rfl) ?_)
  refine Fx.eff0 (fun w' => MapIs w' mw plV Ms.val ([] : List ((Int × Int) × Ms)) ∧ Mods (· = mw) W w') (fun _ _ h k => ⟨h.1.ext k, h.2.then_ k⟩) rfl rfl (fun w' hC => stepAt_mono (stepAt_clear (HF2.out.wm.ext hC) rfl) (fun _ w'' hh => ⟨hh.1, hh.2.after hC⟩)) ?_
  refine Fx.done (fun w4 hC => ?_)
  have HF4 : Hid (FwAt w4 b mw mb (entS σ t)) := Lib.hid (HF2.out.putW hC.1 hC.2)
  have HM4 : Hid (Mods (FF b mw mb) w w4) := Lib.hid (HM2.out.trans hC.2 (fun _ _ h => .inr (.inl h)))
  clear hC c2 lb HF2 HM2
  go_upto_region 8 with fail
  refine wp_region_line [(0,0),(1,0),(2,3),(3,3),(4,0),(5,0)] (by kernel_rfl) (by kernel_rfl) (Ext w4) (fun _ _ h k => h.trans k) (Ext.refl _) ?_
  iterate 2
    first
      | refine Fx.skip rfl rfl (by simp only [List.set_cons_zero, List.set_cons_succ]; rfl) ?_
      | (with_reducible refine Fx.lab0 ?_
         first
           | refine Fx.moveT rfl rfl rfl (by simp only [List.set_cons_zero, List.set_cons_succ]; rfl) ?_
           | refine Fx.assignT rfl rfl rfl (by simp only [List.set_cons_zero, List.set_cons_succ]; rfl) ?_
           | refine Fx.pure_ rfl rfl (fun _ => by go_simp; first | done | rfl) (by simp only [List.set_cons_zero, List.set_cons_succ]; rfl) ?_)
      | (with_reducible refine Fx.lab1 ?_
         refine Fx.look rfl rfl (fun w' hC => by obtain ⟨hc, hf, hl⟩ := Ext.cells hC; go_simp; rfl) (by simp only [List.set_cons_zero, List.set_cons_succ]; rfl) ?_)
  refine Fx.eff (fun nv w' => NbL w' nv (relL (entS σ t)) ∧ FwAt w' b mw mb (relS (entS σ t)) ∧ Mods (FF b mw mb) w4 w' ∧ ∀ x, nv.ownBlock = some x → w4.heap.size ≤ x) (fun v _ _ h k => ⟨h.1.ext k, h.2.1.ext k, h.2.2.1.then_ k, h.2.2.2⟩) rfl rfl (fun w' hC => ?_) (fun nv => ?_)
  · unfold stepAt
    rw [show (execOp _ _).run Try.prog w' = .ok (.enter 29 #[.pointer (some ⟨b, 0, none⟩)]) w' from by first | (go_simp; done) | (go_simp; rfl)]
    refine (rel_at (HF4.out.ext hC) HN.out (Nat.le_trans HLn.out (by decide))).mono (fun e w'' hh => ?_)
    obtain ⟨nv, rfl, h1, h2, h3, h4⟩ := hh
    exact ⟨nv, rfl, h1, h2, h3.after hC, fun z hz => Nat.le_trans hC.size (h4 z hz)⟩
  simp only [List.set_cons_zero, List.set_cons_succ]
  refine Fx.eff (fun nv w' => OwnMs w' nv (moveL σ t) ∧ FwAt w' b mw mb (moveS σ t) ∧ Mods (FF b mw mb) w4 w' ∧ ∀ x, nv.ownBlock = some x → w4.heap.size ≤ x) (fun v _ _ h k => ⟨h.1.ext k, h.2.1.ext k, h.2.2.1.then_ k, h.2.2.2⟩) rfl rfl (fun w' hC => ?_) (fun nv2 => ?_)
  · unfold stepAt
    rw [show (execOp _ _).run Try.prog w' = .ok (.enter 28 #[.pointer (some ⟨b, 0, none⟩), nv]) w' from by first | (go_simp; done) | (go_simp; rfl)]
    refine (take_at hC.2.1 nv _ hC.1 (fun z hz hf => ?_) ?_).mono (fun e w'' hh => ?_)
    · have := HF4.out.lt hf
      have := hC.2.2.2 z hz
      omega
    · have h1 := relL_len (entS σ t)
      have h2 := HLn.out
      show ([] : List ((Int × Int) × Ms)).length + _ ≤ _
      have h3 : (relL (entS σ t)).length ≤ σ.bf.length := h1
      simp; omega
    · obtain ⟨nv, rfl, h1, h2, h3, h4⟩ := hh
      exact ⟨nv, rfl, h1, h2, hC.2.2.1.trans h3 (fun _ _ h => h), fun z hz => Nat.le_trans hC.2.2.1.size (h4 z hz)⟩
  simp only [List.set_cons_zero, List.set_cons_succ]
  iterate 2
    first
      | refine Fx.skip rfl rfl (by simp only [List.set_cons_zero, List.set_cons_succ]; rfl) ?_
      | (with_reducible refine Fx.lab0 ?_
         first
           | refine Fx.moveT rfl rfl rfl (by simp only [List.set_cons_zero, List.set_cons_succ]; rfl) ?_
           | refine Fx.assignT rfl rfl rfl (by simp only [List.set_cons_zero, List.set_cons_succ]; rfl) ?_
           | refine Fx.pure_ rfl rfl (fun _ => by go_simp; first | done | rfl) (by simp only [List.set_cons_zero, List.set_cons_succ]; rfl) ?_)
      | (with_reducible refine Fx.lab1 ?_
         refine Fx.look rfl rfl (fun w' hC => by obtain ⟨hc, hf, hl⟩ := Ext.cells hC; go_simp; rfl) (by simp only [List.set_cons_zero, List.set_cons_succ]; rfl) ?_)
  refine Fx.done (fun w6 hC => ?_)
  have HC := Lib.hid hC
  clear hC
  go_wp2
  go_ret2
  exact ⟨nv2, rfl, HC.out.1, HC.out.2.1, HM4.out.trans HC.out.2.2.1 (fun _ _ h => h), fun z hz => Nat.le_trans HM4.out.size (HC.out.2.2.2 z hz)⟩
end Go.Proofs.Ytokljdkeegdniaa
