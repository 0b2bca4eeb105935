/-
  rostrumlaw11.shown: what it shows.
-/
import Derived.Test.YtokljdkeegdniaaEqN
namespace Go.Proofs.Ytokljdkeegdniaa
open Go.RowKit
attribute [local go_sem] Oper.semAt_some

def xA : Nb := ⟨1, 1, mMsg 1 1⟩
def xB : Nb := ⟨1, 2, mMsg 2 1⟩
def sA : SqSt := ⟨1, [((1, 1), 1)], [xA]⟩
def sB : SqSt := ⟨1, [((1, 1), 1), ((2, 1), 2)], [xA, xB]⟩
def fB : FwSt := ⟨1, 1, [((1, 2), mMsg 2 1)], []⟩
def fC : FwSt := ⟨1, 3, [], []⟩
theorem eA1 : numX (sq0 1) (mMsg 1 1) = xA := by kernel_rfl
theorem eA2 : numS (sq0 1) (mMsg 1 1) = sA := by kernel_rfl
theorem eB1 : numX sA (mMsg 2 1) = xB := by kernel_rfl
theorem eB2 : numS sA (mMsg 2 1) = sB := by kernel_rfl
theorem eC1 : numX sB (mMsg 1 1) = xA := by kernel_rfl
theorem eC2 : numS sB (mMsg 1 1) = sB := by kernel_rfl
theorem fB1 : takeL (fw0 1) [xB] = [] := by kernel_rfl
theorem fB2 : takeS (fw0 1) [xB] = fB := by kernel_rfl
theorem fC1 : takeL fB [xA] = [mMsg 1 1, mMsg 2 1] := by kernel_rfl
theorem fC2 : takeS fB [xA] = fC := by kernel_rfl

set_option maxRecDepth 100000 in
set_option maxHeartbeats 6400000 in
theorem shown_at (w : World) : Calls Try.prog 9 #[] w fun e w' => e = .returned (.bool true) ∧ Ext w w' := by
  go_enter Try.func9, Try.ntmps9
  go_upto_region 2 with (go_at_call 22; refine (newQ_at _ _).mono ?_; rintro e w1 ⟨b, mn, rfl, hM, hE, h1, h2⟩; have H1 := Lib.hid (SqI.new hM hE h1 h2); clear hM hE h1 h2)
  obtain ⟨av0, hav0⟩ : ∃ av0, Value.slice none 0 0 = av0 := ⟨_, rfl⟩
  rw [hav0] at H1
  clear hav0
  go_upto_region 2 with fail
  refine wp_region_line [(0,0),(1,1),(2,3),(3,0),(4,0),(5,0),(6,2),(7,3),(8,0)] (by kernel_rfl) (by kernel_rfl) (Ext w1) (fun _ _ h k => h.trans k) (Ext.refl _) ?_
  first
    | refine Fx.skip rfl rfl (by simp only [List.set_cons_zero, List.set_cons_succ]; rfl) ?_
    | (with_reducible refine Fx.lab0 ?_
       first
         | refine Fx.moveT rfl rfl rfl (by simp only [List.set_cons_zero, List.set_cons_succ]; rfl) ?_
         | refine Fx.assignT rfl rfl rfl (by simp only [List.set_cons_zero, List.set_cons_succ]; rfl) ?_
         | refine Fx.pure_ rfl rfl (fun _ => by go_simp; first | done | rfl) (by simp only [List.set_cons_zero, List.set_cons_succ]; rfl) ?_)
    | (with_reducible refine Fx.lab1 ?_
       refine Fx.look rfl rfl (fun w' hC => by obtain ⟨hc, hf, hl⟩ := Ext.cells hC; go_simp; rfl) (by simp only [List.set_cons_zero, List.set_cons_succ]; rfl) ?_)
  refine Fx.call1 (v := (mMsg 1 1).val) (args := #[.int .i64 1, .int .u32 1]) rfl rfl (fun _ => by first | (go_simp; done) | (go_simp; rfl)) (fun w' hC => msg_at 1 1 w') (by simp only [List.set_cons_zero, List.set_cons_succ]; rfl) ?_
  refine Fx.effBy (β := Value) (fun _ => .tuple #[xA.val, .int .i64 0]) (fun av' w' => SqI w b mn av' sA w' ∧ Mods (FQ b mn av0) w1 w' ∧ ∀ x, av'.ownBlock = some x → av0.ownBlock = some x ∨ w1.heap.size ≤ x) ⟨undef⟩ (fun _ _ _ h k => ⟨h.1.ext' k, h.2.1.then_ k, h.2.2⟩) rfl rfl (fun w' hC => ?_) (fun av1 => ?_)
  · unfold stepAt
    rw [show (execOp _ _).run Try.prog w' = .ok (.enter 23 #[.pointer (some ⟨b, 0, none⟩), (mMsg 1 1).val]) w' from by first | (go_simp; done) | (go_simp; rfl)]
    refine (num_at (H1.out.p.ext hC) H1.out.ok (by decide) (mMsg 1 1) (by decide)).mono (fun e w'' hh => ?_)
    obtain ⟨av', rfl, h1, h2, h3⟩ := hh
    rw [eA2] at h1
    have hstep := (H1.out.ext' hC).step h1 (by have := numS_ok H1.out.ok (by decide) (mMsg 1 1); rwa [eA2] at this) h2 h3
    exact ⟨_, rfl, av', by rw [eA1], hstep, h2.after hC, fun x hx => (h3 x hx).imp id (fun h => Nat.le_trans hC.size h)⟩
  simp only [List.set_cons_zero, List.set_cons_succ]
  iterate 3
    first
      | refine Fx.skip rfl rfl (by simp only [List.set_cons_zero, List.set_cons_succ]; rfl) ?_
      | (with_reducible refine Fx.lab0 ?_
         first
           | refine Fx.moveT rfl rfl rfl (by simp only [List.set_cons_zero, List.set_cons_succ]; rfl) ?_
           | refine Fx.assignT rfl rfl rfl (by simp only [List.set_cons_zero, List.set_cons_succ]; rfl) ?_
           | refine Fx.pure_ rfl rfl (fun _ => by go_simp; first | done | rfl) (by simp only [List.set_cons_zero, List.set_cons_succ]; rfl) ?_)
      | (with_reducible refine Fx.lab1 ?_
         refine Fx.look rfl rfl (fun w' hC => by obtain ⟨hc, hf, hl⟩ := Ext.cells hC; go_simp; rfl) (by simp only [List.set_cons_zero, List.set_cons_succ]; rfl) ?_)
  refine Fx.mkPtr (fun B w' => ¬ FQ b mn av1 B ∧ w.heap.size ≤ B ∧ w1.heap.size ≤ B ∧ Obj_ w' B 5 (nbF nb0)) (fun B _ _ h k => ⟨h.1, h.2.1, h.2.2.1, h.2.2.2.ext k⟩) rfl rfl (fun w' hC => stepAt_mono (stepAt_alloc_Nb (Ext.refl w')) (fun u w'' hh => by
    obtain ⟨B, h1, h2, h3, h4⟩ := hh
    exact ⟨B, h1, h2, fun h => by have := hC.1.p.lt h; omega, Nat.le_trans hC.1.e.size h3, Nat.le_trans hC.2.1.size h3, h4⟩)) (fun B2 => ?_)
  simp only [List.set_cons_zero, List.set_cons_succ]
  refine Fx.eff0 (fun w' => SqI w b mn av1 sA w' ∧ Mods (FQ b mn av0) w1 w' ∧ (∀ x, av1.ownBlock = some x → av0.ownBlock = some x ∨ w1.heap.size ≤ x) ∧ ¬ FQ b mn av1 B2 ∧ w.heap.size ≤ B2 ∧ Obj_ w' B2 5 (nbF xA)) (fun _ _ h k => ⟨h.1.ext' k, h.2.1.then_ k, h.2.2.1, h.2.2.2.1, h.2.2.2.2.1, h.2.2.2.2.2.ext k⟩) rfl rfl (fun w' hC => stepAt_mono (stepAt_put_Nb hC.2.2.2.2 xA rfl rfl) (fun _ w'' hh => ?_)) ?_
  · obtain ⟨⟨i1, i2, i3⟩, j1, j2, j3, j4⟩ := hC
    exact ⟨⟨i1.p.mods hh.1 (fun z hz e => j1 (by rw [← e]; exact hz)), i1.ok, i1.fr, ((i1.e.mods _).trans hh.1 (fun _ _ h => h)).ext_of (fun z hz e => by omega)⟩, i2.trans hh.1 (fun z hz e => by omega), i3, j1, j2, hh.2⟩
  first
    | refine Fx.skip rfl rfl (by simp only [List.set_cons_zero, List.set_cons_succ]; rfl) ?_
    | (with_reducible refine Fx.lab0 ?_
       first
         | refine Fx.moveT rfl rfl rfl (by simp only [List.set_cons_zero, List.set_cons_succ]; rfl) ?_
         | refine Fx.assignT rfl rfl rfl (by simp only [List.set_cons_zero, List.set_cons_succ]; rfl) ?_
         | refine Fx.pure_ rfl rfl (fun _ => by go_simp; first | done | rfl) (by simp only [List.set_cons_zero, List.set_cons_succ]; rfl) ?_)
    | (with_reducible refine Fx.lab1 ?_
       refine Fx.look rfl rfl (fun w' hC => by obtain ⟨hc, hf, hl⟩ := Ext.cells hC; go_simp; rfl) (by simp only [List.set_cons_zero, List.set_cons_succ]; rfl) ?_)
  refine Fx.done (fun w2 hC => ?_)
  have H2 := Lib.hid hC.1
  have M2 := Lib.hid hC.2.1
  have A2 := Lib.hid hC.2.2.1
  have NB2 := Lib.hid hC.2.2.2.1
  have GB2 := Lib.hid hC.2.2.2.2.1
  have OB2 := Lib.hid hC.2.2.2.2.2
  clear hC
  go_upto_region 3 with fail
  refine wp_region_line [(0,0),(1,1),(2,3),(3,0),(4,0),(5,0),(6,2),(7,3),(8,0)] (by kernel_rfl) (by kernel_rfl) (Ext w2) (fun _ _ h k => h.trans k) (Ext.refl _) ?_
  first
    | refine Fx.skip rfl rfl (by simp only [List.set_cons_zero, List.set_cons_succ]; rfl) ?_
    | (with_reducible refine Fx.lab0 ?_
       first
         | refine Fx.moveT rfl rfl rfl (by simp only [List.set_cons_zero, List.set_cons_succ]; rfl) ?_
         | refine Fx.assignT rfl rfl rfl (by simp only [List.set_cons_zero, List.set_cons_succ]; rfl) ?_
         | refine Fx.pure_ rfl rfl (fun _ => by go_simp; first | done | rfl) (by simp only [List.set_cons_zero, List.set_cons_succ]; rfl) ?_)
    | (with_reducible refine Fx.lab1 ?_
       refine Fx.look rfl rfl (fun w' hC => by obtain ⟨hc, hf, hl⟩ := Ext.cells hC; go_simp; rfl) (by simp only [List.set_cons_zero, List.set_cons_succ]; rfl) ?_)
  refine Fx.call1 (v := (mMsg 2 1).val) (args := #[.int .i64 2, .int .u32 1]) rfl rfl (fun _ => by first | (go_simp; done) | (go_simp; rfl)) (fun w' hC => msg_at 2 1 w') (by simp only [List.set_cons_zero, List.set_cons_succ]; rfl) ?_
  refine Fx.effBy (β := Value) (fun _ => .tuple #[xB.val, .int .i64 0]) (fun av' w' => SqI w b mn av' sB w' ∧ Mods (FQ b mn av1) w2 w' ∧ ∀ x, av'.ownBlock = some x → av1.ownBlock = some x ∨ w2.heap.size ≤ x) ⟨undef⟩ (fun _ _ _ h k => ⟨h.1.ext' k, h.2.1.then_ k, h.2.2⟩) rfl rfl (fun w' hC => ?_) (fun av2 => ?_)
  · unfold stepAt
    rw [show (execOp _ _).run Try.prog w' = .ok (.enter 23 #[.pointer (some ⟨b, 0, none⟩), (mMsg 2 1).val]) w' from by first | (go_simp; done) | (go_simp; rfl)]
    refine (num_at (H2.out.p.ext hC) H2.out.ok (by decide) (mMsg 2 1) (by decide)).mono (fun e w'' hh => ?_)
    obtain ⟨av', rfl, h1, h2, h3⟩ := hh
    rw [eB2] at h1
    have hstep := (H2.out.ext' hC).step h1 (by have := numS_ok H2.out.ok (by decide) (mMsg 2 1); rwa [eB2] at this) h2 h3
    exact ⟨_, rfl, av', by rw [eB1], hstep, h2.after hC, fun x hx => (h3 x hx).imp id (fun h => Nat.le_trans hC.size h)⟩
  simp only [List.set_cons_zero, List.set_cons_succ]
  iterate 3
    first
      | refine Fx.skip rfl rfl (by simp only [List.set_cons_zero, List.set_cons_succ]; rfl) ?_
      | (with_reducible refine Fx.lab0 ?_
         first
           | refine Fx.moveT rfl rfl rfl (by simp only [List.set_cons_zero, List.set_cons_succ]; rfl) ?_
           | refine Fx.assignT rfl rfl rfl (by simp only [List.set_cons_zero, List.set_cons_succ]; rfl) ?_
           | refine Fx.pure_ rfl rfl (fun _ => by go_simp; first | done | rfl) (by simp only [List.set_cons_zero, List.set_cons_succ]; rfl) ?_)
      | (with_reducible refine Fx.lab1 ?_
         refine Fx.look rfl rfl (fun w' hC => by obtain ⟨hc, hf, hl⟩ := Ext.cells hC; go_simp; rfl) (by simp only [List.set_cons_zero, List.set_cons_succ]; rfl) ?_)
  refine Fx.mkPtr (fun B w' => ¬ FQ b mn av2 B ∧ w.heap.size ≤ B ∧ w2.heap.size ≤ B ∧ Obj_ w' B 5 (nbF nb0)) (fun B _ _ h k => ⟨h.1, h.2.1, h.2.2.1, h.2.2.2.ext k⟩) rfl rfl (fun w' hC => stepAt_mono (stepAt_alloc_Nb (Ext.refl w')) (fun u w'' hh => by
    obtain ⟨B, h1, h2, h3, h4⟩ := hh
    exact ⟨B, h1, h2, fun h => by have := hC.1.p.lt h; omega, Nat.le_trans hC.1.e.size h3, Nat.le_trans hC.2.1.size h3, h4⟩)) (fun B4 => ?_)
  simp only [List.set_cons_zero, List.set_cons_succ]
  refine Fx.eff0 (fun w' => SqI w b mn av2 sB w' ∧ Mods (FQ b mn av1) w2 w' ∧ (∀ x, av2.ownBlock = some x → av1.ownBlock = some x ∨ w2.heap.size ≤ x) ∧ ¬ FQ b mn av2 B4 ∧ w.heap.size ≤ B4 ∧ Obj_ w' B4 5 (nbF xB)) (fun _ _ h k => ⟨h.1.ext' k, h.2.1.then_ k, h.2.2.1, h.2.2.2.1, h.2.2.2.2.1, h.2.2.2.2.2.ext k⟩) rfl rfl (fun w' hC => stepAt_mono (stepAt_put_Nb hC.2.2.2.2 xB rfl rfl) (fun _ w'' hh => ?_)) ?_
  · obtain ⟨⟨i1, i2, i3⟩, j1, j2, j3, j4⟩ := hC
    exact ⟨⟨i1.p.mods hh.1 (fun z hz e => j1 (by rw [← e]; exact hz)), i1.ok, i1.fr, ((i1.e.mods _).trans hh.1 (fun _ _ h => h)).ext_of (fun z hz e => by omega)⟩, i2.trans hh.1 (fun z hz e => by omega), i3, j1, j2, hh.2⟩
  first
    | refine Fx.skip rfl rfl (by simp only [List.set_cons_zero, List.set_cons_succ]; rfl) ?_
    | (with_reducible refine Fx.lab0 ?_
       first
         | refine Fx.moveT rfl rfl rfl (by simp only [List.set_cons_zero, List.set_cons_succ]; rfl) ?_
         | refine Fx.assignT rfl rfl rfl (by simp only [List.set_cons_zero, List.set_cons_succ]; rfl) ?_
         | refine Fx.pure_ rfl rfl (fun _ => by go_simp; first | done | rfl) (by simp only [List.set_cons_zero, List.set_cons_succ]; rfl) ?_)
    | (with_reducible refine Fx.lab1 ?_
       refine Fx.look rfl rfl (fun w' hC => by obtain ⟨hc, hf, hl⟩ := Ext.cells hC; go_simp; rfl) (by simp only [List.set_cons_zero, List.set_cons_succ]; rfl) ?_)
  refine Fx.done (fun w3 hC => ?_)
  have H3 := Lib.hid hC.1
  have M3 := Lib.hid hC.2.1
  have A3 := Lib.hid hC.2.2.1
  have NB4 := Lib.hid hC.2.2.2.1
  have GB4 := Lib.hid hC.2.2.2.2.1
  have OB4 := Lib.hid hC.2.2.2.2.2
  have OB2' := Lib.hid (OB2.out.mods M3.out NB2.out)
  have NB2' : Hid (¬ FQ b mn av2 B2) := Lib.hid (fun h => by
    rcases h with h | h | h
    · exact NB2.out (.inl h)
    · exact NB2.out (.inr (.inl h))
    · rcases A3.out _ h with e | e
      · exact NB2.out (.inr (.inr e))
      · have := OB2.out.lt; omega)
  clear OB2 NB2
  have OB2 := OB2'
  have NB2 := NB2'
  clear OB2' NB2'
  clear hC
  go_upto_region 4 with fail
  refine wp_region_line [(0,0),(1,1),(2,3),(3,0),(4,0),(5,0),(6,2),(7,3),(8,0)] (by kernel_rfl) (by kernel_rfl) (Ext w3) (fun _ _ h k => h.trans k) (Ext.refl _) ?_
  first
    | refine Fx.skip rfl rfl (by simp only [List.set_cons_zero, List.set_cons_succ]; rfl) ?_
    | (with_reducible refine Fx.lab0 ?_
       first
         | refine Fx.moveT rfl rfl rfl (by simp only [List.set_cons_zero, List.set_cons_succ]; rfl) ?_
         | refine Fx.assignT rfl rfl rfl (by simp only [List.set_cons_zero, List.set_cons_succ]; rfl) ?_
         | refine Fx.pure_ rfl rfl (fun _ => by go_simp; first | done | rfl) (by simp only [List.set_cons_zero, List.set_cons_succ]; rfl) ?_)
    | (with_reducible refine Fx.lab1 ?_
       refine Fx.look rfl rfl (fun w' hC => by obtain ⟨hc, hf, hl⟩ := Ext.cells hC; go_simp; rfl) (by simp only [List.set_cons_zero, List.set_cons_succ]; rfl) ?_)
  refine Fx.call1 (v := (mMsg 1 1).val) (args := #[.int .i64 1, .int .u32 1]) rfl rfl (fun _ => by first | (go_simp; done) | (go_simp; rfl)) (fun w' hC => msg_at 1 1 w') (by simp only [List.set_cons_zero, List.set_cons_succ]; rfl) ?_
  refine Fx.effBy (β := Value) (fun _ => .tuple #[xA.val, .int .i64 0]) (fun av' w' => SqI w b mn av' sB w' ∧ Mods (FQ b mn av2) w3 w' ∧ ∀ x, av'.ownBlock = some x → av2.ownBlock = some x ∨ w3.heap.size ≤ x) ⟨undef⟩ (fun _ _ _ h k => ⟨h.1.ext' k, h.2.1.then_ k, h.2.2⟩) rfl rfl (fun w' hC => ?_) (fun av3 => ?_)
  · unfold stepAt
    rw [show (execOp _ _).run Try.prog w' = .ok (.enter 23 #[.pointer (some ⟨b, 0, none⟩), (mMsg 1 1).val]) w' from by first | (go_simp; done) | (go_simp; rfl)]
    refine (num_at (H3.out.p.ext hC) H3.out.ok (by decide) (mMsg 1 1) (by decide)).mono (fun e w'' hh => ?_)
    obtain ⟨av', rfl, h1, h2, h3⟩ := hh
    rw [eC2] at h1
    have hstep := (H3.out.ext' hC).step h1 (by have := numS_ok H3.out.ok (by decide) (mMsg 1 1); rwa [eC2] at this) h2 h3
    exact ⟨_, rfl, av', by rw [eC1], hstep, h2.after hC, fun x hx => (h3 x hx).imp id (fun h => Nat.le_trans hC.size h)⟩
  simp only [List.set_cons_zero, List.set_cons_succ]
  iterate 3
    first
      | refine Fx.skip rfl rfl (by simp only [List.set_cons_zero, List.set_cons_succ]; rfl) ?_
      | (with_reducible refine Fx.lab0 ?_
         first
           | refine Fx.moveT rfl rfl rfl (by simp only [List.set_cons_zero, List.set_cons_succ]; rfl) ?_
           | refine Fx.assignT rfl rfl rfl (by simp only [List.set_cons_zero, List.set_cons_succ]; rfl) ?_
           | refine Fx.pure_ rfl rfl (fun _ => by go_simp; first | done | rfl) (by simp only [List.set_cons_zero, List.set_cons_succ]; rfl) ?_)
      | (with_reducible refine Fx.lab1 ?_
         refine Fx.look rfl rfl (fun w' hC => by obtain ⟨hc, hf, hl⟩ := Ext.cells hC; go_simp; rfl) (by simp only [List.set_cons_zero, List.set_cons_succ]; rfl) ?_)
  refine Fx.mkPtr (fun B w' => ¬ FQ b mn av3 B ∧ w.heap.size ≤ B ∧ w3.heap.size ≤ B ∧ Obj_ w' B 5 (nbF nb0)) (fun B _ _ h k => ⟨h.1, h.2.1, h.2.2.1, h.2.2.2.ext k⟩) rfl rfl (fun w' hC => stepAt_mono (stepAt_alloc_Nb (Ext.refl w')) (fun u w'' hh => by
    obtain ⟨B, h1, h2, h3, h4⟩ := hh
    exact ⟨B, h1, h2, fun h => by have := hC.1.p.lt h; omega, Nat.le_trans hC.1.e.size h3, Nat.le_trans hC.2.1.size h3, h4⟩)) (fun B6 => ?_)
  simp only [List.set_cons_zero, List.set_cons_succ]
  refine Fx.eff0 (fun w' => SqI w b mn av3 sB w' ∧ Mods (FQ b mn av2) w3 w' ∧ (∀ x, av3.ownBlock = some x → av2.ownBlock = some x ∨ w3.heap.size ≤ x) ∧ ¬ FQ b mn av3 B6 ∧ w.heap.size ≤ B6 ∧ Obj_ w' B6 5 (nbF xA)) (fun _ _ h k => ⟨h.1.ext' k, h.2.1.then_ k, h.2.2.1, h.2.2.2.1, h.2.2.2.2.1, h.2.2.2.2.2.ext k⟩) rfl rfl (fun w' hC => stepAt_mono (stepAt_put_Nb hC.2.2.2.2 xA rfl rfl) (fun _ w'' hh => ?_)) ?_
  · obtain ⟨⟨i1, i2, i3⟩, j1, j2, j3, j4⟩ := hC
    exact ⟨⟨i1.p.mods hh.1 (fun z hz e => j1 (by rw [← e]; exact hz)), i1.ok, i1.fr, ((i1.e.mods _).trans hh.1 (fun _ _ h => h)).ext_of (fun z hz e => by omega)⟩, i2.trans hh.1 (fun z hz e => by omega), i3, j1, j2, hh.2⟩
  first
    | refine Fx.skip rfl rfl (by simp only [List.set_cons_zero, List.set_cons_succ]; rfl) ?_
    | (with_reducible refine Fx.lab0 ?_
       first
         | refine Fx.moveT rfl rfl rfl (by simp only [List.set_cons_zero, List.set_cons_succ]; rfl) ?_
         | refine Fx.assignT rfl rfl rfl (by simp only [List.set_cons_zero, List.set_cons_succ]; rfl) ?_
         | refine Fx.pure_ rfl rfl (fun _ => by go_simp; first | done | rfl) (by simp only [List.set_cons_zero, List.set_cons_succ]; rfl) ?_)
    | (with_reducible refine Fx.lab1 ?_
       refine Fx.look rfl rfl (fun w' hC => by obtain ⟨hc, hf, hl⟩ := Ext.cells hC; go_simp; rfl) (by simp only [List.set_cons_zero, List.set_cons_succ]; rfl) ?_)
  refine Fx.done (fun w4 hC => ?_)
  have H4 := Lib.hid hC.1
  have M4 := Lib.hid hC.2.1
  have A4 := Lib.hid hC.2.2.1
  have NB6 := Lib.hid hC.2.2.2.1
  have GB6 := Lib.hid hC.2.2.2.2.1
  have OB6 := Lib.hid hC.2.2.2.2.2
  have OB2' := Lib.hid (OB2.out.mods M4.out NB2.out)
  have NB2' : Hid (¬ FQ b mn av3 B2) := Lib.hid (fun h => by
    rcases h with h | h | h
    · exact NB2.out (.inl h)
    · exact NB2.out (.inr (.inl h))
    · rcases A4.out _ h with e | e
      · exact NB2.out (.inr (.inr e))
      · have := OB2.out.lt; omega)
  clear OB2 NB2
  have OB2 := OB2'
  have NB2 := NB2'
  clear OB2' NB2'
  have OB4' := Lib.hid (OB4.out.mods M4.out NB4.out)
  have NB4' : Hid (¬ FQ b mn av3 B4) := Lib.hid (fun h => by
    rcases h with h | h | h
    · exact NB4.out (.inl h)
    · exact NB4.out (.inr (.inl h))
    · rcases A4.out _ h with e | e
      · exact NB4.out (.inr (.inr e))
      · have := OB4.out.lt; omega)
  clear OB4 NB4
  have OB4 := OB4'
  have NB4 := NB4'
  clear OB4' NB4'
  clear hC
  go_upto_region 6 with (go_at_call 10; refine (newF_at _ _).mono ?_; rintro e w5 ⟨c, mw, mb, rfl, hM, hE, hf⟩; have HF := Lib.hid (show FwI w4 c mw mb (fw0 1) w5 from ⟨hM, hf, hE⟩); clear hM hE hf)
  have HE4 := Lib.hid H4.out.e
  have hff : ∀ B, B < w4.heap.size → ¬ FF c mw mb B := fun B hB h => by have := HF.out.fr B h; omega
  have HFF := Lib.hid hff
  have o2 := Lib.hid (OB2.out.ext HF.out.e)
  have o4 := Lib.hid (OB4.out.ext HF.out.e)
  have o6 := Lib.hid (OB6.out.ext HF.out.e)
  have l2 := OB2.out.lt
  have l4 := OB4.out.lt
  have l6 := OB6.out.lt
  have hN := o4.out.nb
  have nl := o4.out.lt
  clear hff OB2 OB4 OB6 NB2 NB4 NB6 H1 H2 H3 H4
  refine wp_region_line [(0,0),(1,1),(2,3),(3,0),(4,0),(5,0),(6,0),(7,0)] (by kernel_rfl) (by kernel_rfl) (Ext w5) (fun _ _ h k => h.trans k) (Ext.refl _) ?_
  first
    | refine Fx.skip rfl rfl (by simp only [List.set_cons_zero, List.set_cons_succ]; rfl) ?_
    | (with_reducible refine Fx.lab0 ?_
       first
         | refine Fx.moveT rfl rfl rfl (by simp only [List.set_cons_zero, List.set_cons_succ]; rfl) ?_
         | refine Fx.assignT rfl rfl rfl (by simp only [List.set_cons_zero, List.set_cons_succ]; rfl) ?_
         | refine Fx.pure_ rfl rfl (fun _ => by go_simp; first | done | rfl) (by simp only [List.set_cons_zero, List.set_cons_succ]; rfl) ?_)
    | (with_reducible refine Fx.lab1 ?_
       refine Fx.look rfl rfl (fun w' hC => by obtain ⟨hc, hf, hl⟩ := Ext.cells hC; go_simp; rfl) (by simp only [List.set_cons_zero, List.set_cons_succ]; rfl) ?_)
  refine Fx.look rfl rfl (op_load_Nb' (m := xB) nl hN rfl) (by simp only [List.set_cons_zero, List.set_cons_succ]; rfl) ?_
  refine Fx.effBy (β := Option Addr × Nat) (fun p => .tuple #[.slice p.1 0 p.2, .int .i64 0]) (fun p w' => FwI w4 c mw mb fB w' ∧ Mods (FF c mw mb) w5 w') ⟨(none, 0)⟩ (fun _ _ _ h k => ⟨h.1.ext' k, h.2.then_ k⟩) rfl rfl (fun w' hC => ?_) (fun p => ?_)
  · unfold stepAt
    rw [show (execOp _ _).run Try.prog w' = .ok (.enter 14 #[.pointer (some ⟨c, 0, none⟩), xB.val]) w' from by first | (go_simp; done) | (go_simp; rfl)]
    refine (recv_now (HF.out.p.ext hC) (by decide) xB (by decide) (by decide) rfl).mono (fun e w'' hh => ?_)
    obtain ⟨nv, rfl, h1, h2, h3, h4⟩ := hh
    rw [fB1] at h1
    rw [fB2] at h2
    obtain ⟨A, cap, rfl, -⟩ := h1.val
    exact ⟨_, rfl, (A, cap), rfl, (HF.out.ext' hC).step h2 h3, h3.after hC⟩
  simp only [List.set_cons_zero, List.set_cons_succ]
  iterate 5
    first
      | refine Fx.skip rfl rfl (by simp only [List.set_cons_zero, List.set_cons_succ]; rfl) ?_
      | (with_reducible refine Fx.lab0 ?_
         first
           | refine Fx.moveT rfl rfl rfl (by simp only [List.set_cons_zero, List.set_cons_succ]; rfl) ?_
           | refine Fx.assignT rfl rfl rfl (by simp only [List.set_cons_zero, List.set_cons_succ]; rfl) ?_
           | refine Fx.pure_ rfl rfl (fun _ => by go_simp; first | done | rfl) (by simp only [List.set_cons_zero, List.set_cons_succ]; rfl) ?_)
      | (with_reducible refine Fx.lab1 ?_
         refine Fx.look rfl rfl (fun w' hC => by obtain ⟨hc, hf, hl⟩ := Ext.cells hC; go_simp; rfl) (by simp only [List.set_cons_zero, List.set_cons_succ]; rfl) ?_)
  refine Fx.done (fun w6 hC => ?_)
  have HF6 := Lib.hid hC.1
  have o26 := Lib.hid (o2.out.mods hC.2 (HFF.out _ l2))
  have o46 := Lib.hid (o4.out.mods hC.2 (HFF.out _ l4))
  have o66 := Lib.hid (o6.out.mods hC.2 (HFF.out _ l6))
  clear hC hN nl o2 o4 o6 HF
  have hN := o26.out.nb
  have nl := o26.out.lt
  go_upto_region 7 with fail
  refine wp_region_line [(0,0),(1,1),(2,3),(3,0),(4,0),(5,0),(6,0),(7,0)] (by kernel_rfl) (by kernel_rfl) (Ext w6) (fun _ _ h k => h.trans k) (Ext.refl _) ?_
  first
    | refine Fx.skip rfl rfl (by simp only [List.set_cons_zero, List.set_cons_succ]; rfl) ?_
    | (with_reducible refine Fx.lab0 ?_
       first
         | refine Fx.moveT rfl rfl rfl (by simp only [List.set_cons_zero, List.set_cons_succ]; rfl) ?_
         | refine Fx.assignT rfl rfl rfl (by simp only [List.set_cons_zero, List.set_cons_succ]; rfl) ?_
         | refine Fx.pure_ rfl rfl (fun _ => by go_simp; first | done | rfl) (by simp only [List.set_cons_zero, List.set_cons_succ]; rfl) ?_)
    | (with_reducible refine Fx.lab1 ?_
       refine Fx.look rfl rfl (fun w' hC => by obtain ⟨hc, hf, hl⟩ := Ext.cells hC; go_simp; rfl) (by simp only [List.set_cons_zero, List.set_cons_succ]; rfl) ?_)
  refine Fx.look rfl rfl (op_load_Nb' (m := xA) nl hN rfl) (by simp only [List.set_cons_zero, List.set_cons_succ]; rfl) ?_
  refine Fx.effBy (β := Option Addr × Nat) (fun p => .tuple #[.slice p.1 2 p.2, .int .i64 0]) (fun p w' => FwI w4 c mw mb fC w' ∧ Mods (FF c mw mb) w6 w' ∧ MsL w' (.slice p.1 2 p.2) [mMsg 1 1, mMsg 2 1]) ⟨(none, 0)⟩ (fun _ _ _ h k => ⟨h.1.ext' k, h.2.1.then_ k, h.2.2.ext k⟩) rfl rfl (fun w' hC => ?_) (fun p2 => ?_)
  · unfold stepAt
    rw [show (execOp _ _).run Try.prog w' = .ok (.enter 14 #[.pointer (some ⟨c, 0, none⟩), xA.val]) w' from by first | (go_simp; done) | (go_simp; rfl)]
    refine (recv_now (HF6.out.p.ext hC) (by decide) xA (by decide) (by decide) rfl).mono (fun e w'' hh => ?_)
    obtain ⟨nv, rfl, h1, h2, h3, h4⟩ := hh
    rw [fC1] at h1
    rw [fC2] at h2
    obtain ⟨A, cap, rfl, -⟩ := h1.val
    exact ⟨_, rfl, (A, cap), rfl, (HF6.out.ext' hC).step h2 h3, h3.after hC, h1.sl Ms.len⟩
  simp only [List.set_cons_zero, List.set_cons_succ]
  iterate 5
    first
      | refine Fx.skip rfl rfl (by simp only [List.set_cons_zero, List.set_cons_succ]; rfl) ?_
      | (with_reducible refine Fx.lab0 ?_
         first
           | refine Fx.moveT rfl rfl rfl (by simp only [List.set_cons_zero, List.set_cons_succ]; rfl) ?_
           | refine Fx.assignT rfl rfl rfl (by simp only [List.set_cons_zero, List.set_cons_succ]; rfl) ?_
           | refine Fx.pure_ rfl rfl (fun _ => by go_simp; first | done | rfl) (by simp only [List.set_cons_zero, List.set_cons_succ]; rfl) ?_)
      | (with_reducible refine Fx.lab1 ?_
         refine Fx.look rfl rfl (fun w' hC => by obtain ⟨hc, hf, hl⟩ := Ext.cells hC; go_simp; rfl) (by simp only [List.set_cons_zero, List.set_cons_succ]; rfl) ?_)
  refine Fx.done (fun w7 hC => ?_)
  have HF7 := Lib.hid hC.1
  have HM7 := Lib.hid hC.2.2
  have o27 := Lib.hid (o26.out.mods hC.2.1 (HFF.out _ l2))
  have o47 := Lib.hid (o46.out.mods hC.2.1 (HFF.out _ l4))
  have o67 := Lib.hid (o66.out.mods hC.2.1 (HFF.out _ l6))
  clear hC hN nl o26 o46 o66 HF6 l2 l4 l6
  go_upto_region 8 with fail
  refine wp_region_line [(0,0),(1,1),(2,0),(3,0),(4,0),(5,0),(6,0)] (by kernel_rfl) (by kernel_rfl) (Ext w7) (fun _ _ h k => h.trans k) (Ext.refl _) ?_
  first
    | refine Fx.skip rfl rfl (by simp only [List.set_cons_zero, List.set_cons_succ]; rfl) ?_
    | (with_reducible refine Fx.lab0 ?_
       first
         | refine Fx.moveT rfl rfl rfl (by simp only [List.set_cons_zero, List.set_cons_succ]; rfl) ?_
         | refine Fx.assignT rfl rfl rfl (by simp only [List.set_cons_zero, List.set_cons_succ]; rfl) ?_
         | refine Fx.pure_ rfl rfl (fun _ => by go_simp; first | done | rfl) (by simp only [List.set_cons_zero, List.set_cons_succ]; rfl) ?_)
    | (with_reducible refine Fx.lab1 ?_
       refine Fx.look rfl rfl (fun w' hC => by obtain ⟨hc, hf, hl⟩ := Ext.cells hC; go_simp; rfl) (by simp only [List.set_cons_zero, List.set_cons_succ]; rfl) ?_)
  refine Fx.call1 (v := .tuple #[.slice none 0 0, .int .i64 110]) (args := #[.pointer (some ⟨c, 0, none⟩), .int .u32 1]) rfl rfl (fun _ => by first | (go_simp; done) | (go_simp; rfl)) (fun w' hC => move_stale (HF7.out.p.ext hC) 1 (by decide)) (by simp only [List.set_cons_zero, List.set_cons_succ]; rfl) ?_
  iterate 5
    first
      | refine Fx.skip rfl rfl (by simp only [List.set_cons_zero, List.set_cons_succ]; rfl) ?_
      | (with_reducible refine Fx.lab0 ?_
         first
           | refine Fx.moveT rfl rfl rfl (by simp only [List.set_cons_zero, List.set_cons_succ]; rfl) ?_
           | refine Fx.assignT rfl rfl rfl (by simp only [List.set_cons_zero, List.set_cons_succ]; rfl) ?_
           | refine Fx.pure_ rfl rfl (fun _ => by go_simp; first | done | rfl) (by simp only [List.set_cons_zero, List.set_cons_succ]; rfl) ?_)
      | (with_reducible refine Fx.lab1 ?_
         refine Fx.look rfl rfl (fun w' hC => by obtain ⟨hc, hf, hl⟩ := Ext.cells hC; go_simp; rfl) (by simp only [List.set_cons_zero, List.set_cons_succ]; rfl) ?_)
  refine Fx.done (fun w8 hC => ?_)
  have HM8 := Lib.hid (HM7.out.ext hC)
  have o28 := Lib.hid (o27.out.ext hC)
  have o48 := Lib.hid (o47.out.ext hC)
  have o68 := Lib.hid (o67.out.ext hC)
  have HE8 := Lib.hid ((HE4.out.trans HF7.out.e).trans hC)
  clear hC HF7 HM7 o27 o47 o67
  have g2 := o28.out.nb
  have gl2 := o28.out.lt
  have g6 := o68.out.nb
  have gl6 := o68.out.lt
  have n4 := o48.out.nb.c1
  have gl4 := o48.out.lt
  simp only [Nat.zero_add, xB] at n4
  go_upto_region 9 with fail
  refine wp_region_line [(0,0),(1,0),(2,0),(3,0),(4,0),(5,0),(6,0),(7,0),(8,0),(9,0),(10,0),(11,0),(12,0),(13,0),(14,0),(15,0),(16,0),(17,0),(18,0),(19,0),(20,0),(21,0),(22,0),(23,1),(24,1),(25,0),(26,0),(27,0),(28,0),(29,1),(30,0),(31,0),(32,0),(33,0),(34,0),(35,0),(36,0),(37,0),(38,0),(39,1),(40,1),(41,2),(42,1),(43,0),(44,0)] (by kernel_rfl) (by kernel_rfl) (Ext w8) (fun _ _ h k => h.trans k) (Ext.refl _) ?_
  iterate 23
    first
      | refine Fx.skip rfl rfl (by simp only [List.set_cons_zero, List.set_cons_succ]; rfl) ?_
      | (with_reducible refine Fx.lab0 ?_
         first
           | refine Fx.moveT rfl rfl rfl (by simp only [List.set_cons_zero, List.set_cons_succ]; rfl) ?_
           | refine Fx.assignT rfl rfl rfl (by simp only [List.set_cons_zero, List.set_cons_succ]; rfl) ?_
           | refine Fx.pure_ rfl rfl (fun _ => by go_simp; first | done | rfl) (by simp only [List.set_cons_zero, List.set_cons_succ]; rfl) ?_)
      | (with_reducible refine Fx.lab1 ?_
         refine Fx.look rfl rfl (fun w' hC => by obtain ⟨hc, hf, hl⟩ := Ext.cells hC; go_simp; rfl) (by simp only [List.set_cons_zero, List.set_cons_succ]; rfl) ?_)
  refine Fx.look rfl rfl (op_load_Nb' (m := xA) gl2 g2 rfl) (by simp only [List.set_cons_zero, List.set_cons_succ]; rfl) ?_
  refine Fx.look rfl rfl (op_load_Nb' (m := xA) gl6 g6 rfl) (by simp only [List.set_cons_zero, List.set_cons_succ]; rfl) ?_
  refine Fx.pure_ (v := .bool true) rfl rfl (fun w => by rw [op_eql_Nb xA xA rfl rfl]; simp) (by simp only [List.set_cons_zero, List.set_cons_succ]; rfl) ?_
  iterate 13
    first
      | refine Fx.skip rfl rfl (by simp only [List.set_cons_zero, List.set_cons_succ]; rfl) ?_
      | (with_reducible refine Fx.lab0 ?_
         first
           | refine Fx.moveT rfl rfl rfl (by simp only [List.set_cons_zero, List.set_cons_succ]; rfl) ?_
           | refine Fx.assignT rfl rfl rfl (by simp only [List.set_cons_zero, List.set_cons_succ]; rfl) ?_
           | refine Fx.pure_ rfl rfl (fun _ => by go_simp; first | done | rfl) (by simp only [List.set_cons_zero, List.set_cons_succ]; rfl) ?_)
      | (with_reducible refine Fx.lab1 ?_
         refine Fx.look rfl rfl (fun w' hC => by obtain ⟨hc, hf, hl⟩ := Ext.cells hC; go_simp; rfl) (by simp only [List.set_cons_zero, List.set_cons_succ]; rfl) ?_)
  refine Fx.call1 (v := (mMsg 1 1).val) (args := #[.int .i64 1, .int .u32 1]) rfl rfl (fun _ => by first | (go_simp; done) | (go_simp; rfl)) (fun w' hC => msg_at 1 1 w') (by simp only [List.set_cons_zero, List.set_cons_succ]; rfl) ?_
  refine Fx.call1 (v := (mMsg 2 1).val) (args := #[.int .i64 2, .int .u32 1]) rfl rfl (fun _ => by first | (go_simp; done) | (go_simp; rfl)) (fun w' hC => msg_at 2 1 w') (by simp only [List.set_cons_zero, List.set_cons_succ]; rfl) ?_
  refine Fx.mkSl 2 2 (fun B w' => MsL w' (.slice (some ⟨B, 0, none⟩) 2 2) [mMsg 1 1, mMsg 2 1]) (fun B _ _ h k => h.ext k) rfl rfl (fun w' hC => stepAt_lit2 hC (mMsg 1 1) (mMsg 2 1) rfl rfl) (fun B => ?_)
  simp only [List.set_cons_zero, List.set_cons_succ]
  refine Fx.call1 (v := .bool true) (args := #[.slice p2.1 2 p2.2, .slice (some ⟨B, 0, none⟩) 2 2]) rfl rfl (fun _ => by first | (go_simp; done) | (go_simp; rfl)) (fun w' hC => (same_ref _ _ [mMsg 1 1, mMsg 2 1] [mMsg 1 1, mMsg 2 1] w' (HM8.out.ext hC.1) hC.2 (by decide)).mono (fun e w'' hh => by rw [show sameB [mMsg 1 1, mMsg 2 1] [mMsg 1 1, mMsg 2 1] = true by simp [sameB]] at hh; exact hh)) (by simp only [List.set_cons_zero, List.set_cons_succ]; rfl) ?_
  iterate 2
    first
      | refine Fx.skip rfl rfl (by simp only [List.set_cons_zero, List.set_cons_succ]; rfl) ?_
      | (with_reducible refine Fx.lab0 ?_
         first
           | refine Fx.moveT rfl rfl rfl (by simp only [List.set_cons_zero, List.set_cons_succ]; rfl) ?_
           | refine Fx.assignT rfl rfl rfl (by simp only [List.set_cons_zero, List.set_cons_succ]; rfl) ?_
           | refine Fx.pure_ rfl rfl (fun _ => by go_simp; first | done | rfl) (by simp only [List.set_cons_zero, List.set_cons_succ]; rfl) ?_)
      | (with_reducible refine Fx.lab1 ?_
         refine Fx.look rfl rfl (fun w' hC => by obtain ⟨hc, hf, hl⟩ := Ext.cells hC; go_simp; rfl) (by simp only [List.set_cons_zero, List.set_cons_succ]; rfl) ?_)
  refine Fx.done (fun w9 hC => ?_)
  have HC := Lib.hid (HE8.out.trans hC.1)
  clear hC g2 gl2 g6 gl6 n4 gl4
  go_wp2
  go_ret
  exact ⟨rfl, HC.out⟩
end Go.Proofs.Ytokljdkeegdniaa
