/-
  rostrumlaw12.BatchTwice: what it computes.
-/
import Derived.Test.YtkkcdoajdhbofaaFull
import Derived.Test.YtkkcdoajdhbofaaPlainQ
namespace Go.Proofs.Ytkkcdoajdhbofaa
open Go.RowKit
attribute [local go_sem] Oper.semAt_some

/-- Two pools of the call's own, that share no block. -/
structure PoolII (w2 : World) (b mw md : Nat) (σ : PSt) (c mc dc : Nat) (τ : PSt) (w : World) : Prop where
  x : PoolI w2 b mw md σ w
  y : PoolI w2 c mc dc τ w
  d : ∀ z, FP b mw md z → ¬ FP c mc dc z
theorem PoolII.ext' {w2 w w' : World} {b mw md : Nat} {σ : PSt} {c mc dc : Nat} {τ : PSt} (h : PoolII w2 b mw md σ c mc dc τ w) (he : Ext w w') : PoolII w2 b mw md σ c mc dc τ w' := ⟨h.x.ext' he, h.y.ext' he, h.d⟩
section
variable {a : Act} {d : Option Tmp} {p : Op} {t : TypeId} {s : String} {af : Array Edge} {g : Option (Nat × Bool)} {w2 wr w : World} {b mw md : Nat} {σ : PSt} {c mc dc : Nat} {τ : PSt}
theorem stepAt_addX (hI : PoolII w2 b mw md σ c mc dc τ wr) (m : Ms) (hC : Ext wr w)
    (hr : (execOp a.eval ⟨d, p, t, s, af, g⟩).run Try.prog w = .ok (.enter 13 #[.pointer (some ⟨b, 0, none⟩), m.val]) w) :
    stepAt Try.prog ⟨d, p, t, s, af, g⟩ a w (fun _ w' => PoolII w2 b mw md (addS σ m) c mc dc τ w') :=
  stepAt_mono (stepAt_add (hI.ext' hC).x m (Ext.refl _) hr) (fun u w' hh => by
    obtain ⟨h1, h2, h3⟩ := hh
    exact ⟨h2, ⟨(hI.ext' hC).y.p.mods h3 (fun z hz hz2 => hI.d z hz2 hz), hI.y.ok, hI.y.fr, h2.e⟩, hI.d⟩)
theorem stepAt_addY (hI : PoolII w2 b mw md σ c mc dc τ wr) (m : Ms) (hC : Ext wr w)
    (hr : (execOp a.eval ⟨d, p, t, s, af, g⟩).run Try.prog w = .ok (.enter 13 #[.pointer (some ⟨c, 0, none⟩), m.val]) w) :
    stepAt Try.prog ⟨d, p, t, s, af, g⟩ a w (fun _ w' => PoolII w2 b mw md σ c mc dc (addS τ m) w') :=
  stepAt_mono (stepAt_add (hI.ext' hC).y m (Ext.refl _) hr) (fun u w' hh => by
    obtain ⟨h1, h2, h3⟩ := hh
    exact ⟨⟨(hI.ext' hC).x.p.mods h3 (fun z hz hz2 => hI.d z hz hz2), hI.x.ok, hI.x.fr, h2.e⟩, h2, hI.d⟩)
end
set_option maxRecDepth 100000 in
set_option maxHeartbeats 3200000 in
theorem twice_law (w : World) (v : Value) (l : List Ms) (hl : MsL w v l) : Calls Try.prog 9 #[v] w (LawP w) := by
  have HL := Lib.hid hl
  obtain ⟨A, cap, rfl, hcap, hmax⟩ := hl.val
  clear hl hcap hmax
  go_enter Try.func9, Try.ntmps9
  go_upto_region 2 with (go_at_call 10; refine (shown_at _).mono ?_; rintro e w1 ⟨rfl, hE1⟩; have H1 := Lib.hid hE1; clear hE1)
  go_upto_region 3 with (go_at_call 23; refine (cut_at _ _ l (HL.out.ext H1.out)).mono ?_; rintro e w2 ⟨fv, rfl, hown, hE2, hblk⟩; obtain ⟨fA, fcap, rfl, hfc⟩ := hown.val; have HF := Lib.hid hown; have H2 := Lib.hid hE2; clear hown hE2 hblk hfc)
  have hL80 : (cutL l).length ≤ 80 := cutL_len l
  have HL2 := Lib.hid (HF.out.sl Ms.len)
  have HE2 := Lib.hid (H1.out.trans H2.out)
  clear HF HL H1 H2
  generalize cutL l = L at *
  go_upto_region 4 with (go_at_call 11; refine (new_at _).mono ?_; rintro e w3 ⟨b, mw, md, rfl, hM, hE, hf⟩; have HM := Lib.hid hM; have HE := Lib.hid hE; have HFr := Lib.hid hf; clear hM hE hf)
  go_upto_region 5 with (go_at_call 11; refine (new_at _).mono ?_; rintro e w4 ⟨c, mc, dc, rfl, hM, hE, hf⟩; have HM4 := Lib.hid hM; have HE4 := Lib.hid hE; have HFr4 := Lib.hid hf; clear hM hE hf)
  have HI4 : Hid (PoolII w2 b mw md p0 c mc dc p0 w4) := Lib.hid ⟨PoolI.new (HM.out.ext HE4.out) (HE.out.trans HE4.out) HFr.out, PoolI.new HM4.out (HE.out.trans HE4.out) (fun x hx => Nat.le_trans HE.out.size (HFr4.out x hx)), fun z h1 h2 => by
    have q1 := HM.out.lt h1
    have q2 := HFr4.out z h2
    omega⟩
  clear HM HE HFr HM4 HE4 HFr4
  go_wp2
  go_loopw [6] (fun q wr => ∃ (k : Nat), k ≤ L.length ∧ q = .int .i64 k ∧ Hid (PoolII w2 b mw md (stP L k) c mc dc (stP L k) wr)) (fun q _ => L.length - (intOf q).toNat)
  case atStart => exact ⟨0, Nat.zero_le _, rfl, by rw [stP_zero]; exact HI4⟩
  case round =>
    obtain ⟨k, hk, rfl, hI⟩ := hrel
    by_cases hlt : k < L.length
    · obtain ⟨jb, joff, rfl, hjbl, j0, j1, j2⟩ := Sl.at3 (HL2.out.ext hI.out.x.e) hlt
      have hst := stP_succ L hlt
      obtain ⟨m, hm⟩ : ∃ m, L[k] = m := ⟨_, rfl⟩
      rw [hm] at hst j0 j1 j2
      have Hm := Lib.hid hm
      obtain ⟨σ, hσ⟩ : ∃ σ, stP L k = σ := ⟨_, rfl⟩
      rw [hσ] at hI hst
      have Hst := Lib.hid hst
      have hwk : IntKind.i64.wrap ((k : Int) + 1) = (k : Int) + 1 := IntWalk.i64_in _ ⟨by omega, by omega⟩
      clear hσ hst hm
      go_upto_region 8 with fail
      refine wp_region_line [(0,0),(1,0),(2,0),(3,0),(4,1),(5,3)] (by kernel_rfl) (by kernel_rfl) (Ext wr) (fun _ _ h k => h.trans k) (Ext.refl _) ?_
      iterate 4
        first
          | refine Fx.skip rfl rfl (by simp only [List.set_cons_zero, List.set_cons_succ]; rfl) ?_
          | (with_reducible refine Fx.lab0 ?_
             first
               | refine Fx.moveT rfl rfl rfl (by simp only [List.set_cons_zero, List.set_cons_succ]; rfl) ?_
               | refine Fx.assignT rfl rfl rfl (by simp only [List.set_cons_zero, List.set_cons_succ]; rfl) ?_
               | refine Fx.pure_ rfl rfl (fun _ => by go_simp; first | done | rfl) (by simp only [List.set_cons_zero, List.set_cons_succ]; rfl) ?_)
          | (with_reducible refine Fx.lab1 ?_
             refine Fx.look rfl rfl (fun w' hC => by obtain ⟨hc, hf, hl⟩ := Ext.cells hC; go_simp; rfl) (by simp only [List.set_cons_zero, List.set_cons_succ]; rfl) ?_)
      refine Fx.look rfl rfl (op_load_Ms' (m := m) hjbl j0 j1 j2 rfl) (by simp only [List.set_cons_zero, List.set_cons_succ]; rfl) ?_
      refine Fx.eff (fun _ w' => PoolII w2 b mw md (addS σ m) c mc dc σ w') (fun _ _ _ h k => h.ext' k) rfl rfl (fun w' hC => stepAt_addX hI.out m hC (by first | (go_simp; done) | (go_simp; rfl))) (fun u => ?_)
      simp only [List.set_cons_zero, List.set_cons_succ]
      refine Fx.done (fun w5 hC => ?_)
      have Hw5 := Lib.hid hC
      clear hC
      clear j0 j1 j2 hjbl
      obtain ⟨jb2, joff2, he, hjbl, j0, j1, j2⟩ := Sl.at3 (HL2.out.ext Hw5.out.x.e) hlt
      injection he with he
      injection he with he1 he2
      subst he1; subst he2
      rw [Hm.out] at j0 j1 j2
      go_upto_region 9 with fail
      refine wp_region_line [(0,0),(1,0),(2,0),(3,0),(4,1),(5,3)] (by kernel_rfl) (by kernel_rfl) (Ext w5) (fun _ _ h k => h.trans k) (Ext.refl _) ?_
      iterate 4
        first
          | refine Fx.skip rfl rfl (by simp only [List.set_cons_zero, List.set_cons_succ]; rfl) ?_
          | (with_reducible refine Fx.lab0 ?_
             first
               | refine Fx.moveT rfl rfl rfl (by simp only [List.set_cons_zero, List.set_cons_succ]; rfl) ?_
               | refine Fx.assignT rfl rfl rfl (by simp only [List.set_cons_zero, List.set_cons_succ]; rfl) ?_
               | refine Fx.pure_ rfl rfl (fun _ => by go_simp; first | done | rfl) (by simp only [List.set_cons_zero, List.set_cons_succ]; rfl) ?_)
          | (with_reducible refine Fx.lab1 ?_
             refine Fx.look rfl rfl (fun w' hC => by obtain ⟨hc, hf, hl⟩ := Ext.cells hC; go_simp; rfl) (by simp only [List.set_cons_zero, List.set_cons_succ]; rfl) ?_)
      refine Fx.look rfl rfl (op_load_Ms' (m := m) hjbl j0 j1 j2 rfl) (by simp only [List.set_cons_zero, List.set_cons_succ]; rfl) ?_
      refine Fx.eff (fun _ w' => PoolII w2 b mw md (addS σ m) c mc dc (addS σ m) w') (fun _ _ _ h k => h.ext' k) rfl rfl (fun w' hC => stepAt_addY Hw5.out m hC (by first | (go_simp; done) | (go_simp; rfl))) (fun u => ?_)
      simp only [List.set_cons_zero, List.set_cons_succ]
      refine Fx.done (fun w6 hC => ?_)
      have Hw6 := Lib.hid hC
      clear hC
      clear j0 j1 j2 hjbl
      obtain ⟨jb2, joff2, he, hjbl, j0, j1, j2⟩ := Sl.at3 (HL2.out.ext Hw6.out.x.e) hlt
      injection he with he
      injection he with he1 he2
      subst he1; subst he2
      rw [Hm.out] at j0 j1 j2
      go_upto_region 10 with fail
      refine wp_region_line [(0,0),(1,0),(2,0),(3,0),(4,1),(5,3)] (by kernel_rfl) (by kernel_rfl) (Ext w6) (fun _ _ h k => h.trans k) (Ext.refl _) ?_
      iterate 4
        first
          | refine Fx.skip rfl rfl (by simp only [List.set_cons_zero, List.set_cons_succ]; rfl) ?_
          | (with_reducible refine Fx.lab0 ?_
             first
               | refine Fx.moveT rfl rfl rfl (by simp only [List.set_cons_zero, List.set_cons_succ]; rfl) ?_
               | refine Fx.assignT rfl rfl rfl (by simp only [List.set_cons_zero, List.set_cons_succ]; rfl) ?_
               | refine Fx.pure_ rfl rfl (fun _ => by go_simp; first | done | rfl) (by simp only [List.set_cons_zero, List.set_cons_succ]; rfl) ?_)
          | (with_reducible refine Fx.lab1 ?_
             refine Fx.look rfl rfl (fun w' hC => by obtain ⟨hc, hf, hl⟩ := Ext.cells hC; go_simp; rfl) (by simp only [List.set_cons_zero, List.set_cons_succ]; rfl) ?_)
      refine Fx.look rfl rfl (op_load_Ms' (m := m) hjbl j0 j1 j2 rfl) (by simp only [List.set_cons_zero, List.set_cons_succ]; rfl) ?_
      refine Fx.eff (fun _ w' => PoolII w2 b mw md (addS σ m) c mc dc (addS (addS σ m) m) w') (fun _ _ _ h k => h.ext' k) rfl rfl (fun w' hC => stepAt_addY Hw6.out m hC (by first | (go_simp; done) | (go_simp; rfl))) (fun u => ?_)
      simp only [List.set_cons_zero, List.set_cons_succ]
      refine Fx.done (fun w7 hC => ?_)
      have Hw7 := Lib.hid hC
      clear hC
      clear j0 j1 j2 hjbl
      go_wp2
      go_roundw
      case rel => exact ⟨k + 1, by omega, by go_num, by rw [Hst.out]; have := Hw7.out; rw [addS_twice] at this; exact Lib.hid this⟩
      case measure => simp [intOf]; omega
    · obtain ⟨σ, hσ⟩ : ∃ σ, stP L k = σ := ⟨_, rfl⟩
      rw [hσ] at hI
      have hpl : (pend σ).length ≤ 1000 := by rw [pend_len]; exact hI.out.x.ok.len
      have HPl := Lib.hid hpl
      clear hσ hpl
      go_upto_region 11 with fail
      refine wp_region_line [(0,0),(1,0),(2,0),(3,2),(4,0),(5,2),(6,1),(7,0),(8,0)] (by kernel_rfl) (by kernel_rfl) (Ext wr) (fun _ _ h k => h.trans k) (Ext.refl _) ?_
      iterate 3
        first
          | refine Fx.skip rfl rfl (by simp only [List.set_cons_zero, List.set_cons_succ]; rfl) ?_
          | (with_reducible refine Fx.lab0 ?_
             first
               | refine Fx.moveT rfl rfl rfl (by simp only [List.set_cons_zero, List.set_cons_succ]; rfl) ?_
               | refine Fx.assignT rfl rfl rfl (by simp only [List.set_cons_zero, List.set_cons_succ]; rfl) ?_
               | refine Fx.pure_ rfl rfl (fun _ => by go_simp; first | done | rfl) (by simp only [List.set_cons_zero, List.set_cons_succ]; rfl) ?_)
          | (with_reducible refine Fx.lab1 ?_
             refine Fx.look rfl rfl (fun w' hC => by obtain ⟨hc, hf, hl⟩ := Ext.cells hC; go_simp; rfl) (by simp only [List.set_cons_zero, List.set_cons_succ]; rfl) ?_)
      refine Fx.mk (fun v' w' => OwnMs w' v' (pend σ)) (fun _ _ _ h k => h.ext k) rfl rfl (fun w' hC => ?_) (fun va => ?_)
      · unfold stepAt
        rw [show (execOp _ _).run Try.prog w' = .ok (.enter 20 #[.pointer (some ⟨b, 0, none⟩)]) w' from by first | (go_simp; done) | (go_simp; rfl)]
        exact (pend_at (hI.out.x.p.ext hC) hI.out.x.ok).mono (fun e w'' hh => by
          obtain ⟨v', rfl, h1, h2, h3⟩ := hh
          exact ⟨_, rfl, h2, h1⟩)
      simp only [List.set_cons_zero, List.set_cons_succ]
      first
        | refine Fx.skip rfl rfl (by simp only [List.set_cons_zero, List.set_cons_succ]; rfl) ?_
        | (with_reducible refine Fx.lab0 ?_
           first
             | refine Fx.moveT rfl rfl rfl (by simp only [List.set_cons_zero, List.set_cons_succ]; rfl) ?_
             | refine Fx.assignT rfl rfl rfl (by simp only [List.set_cons_zero, List.set_cons_succ]; rfl) ?_
             | refine Fx.pure_ rfl rfl (fun _ => by go_simp; first | done | rfl) (by simp only [List.set_cons_zero, List.set_cons_succ]; rfl) ?_)
        | (with_reducible refine Fx.lab1 ?_
           refine Fx.look rfl rfl (fun w' hC => by obtain ⟨hc, hf, hl⟩ := Ext.cells hC; go_simp; rfl) (by simp only [List.set_cons_zero, List.set_cons_succ]; rfl) ?_)
      refine Fx.mk (fun v' w' => OwnMs w' v' (pend σ)) (fun _ _ _ h k => h.ext k) rfl rfl (fun w' hC => ?_) (fun vb => ?_)
      · unfold stepAt
        rw [show (execOp _ _).run Try.prog w' = .ok (.enter 20 #[.pointer (some ⟨c, 0, none⟩)]) w' from by first | (go_simp; done) | (go_simp; rfl)]
        exact (pend_at (hI.out.y.p.ext hC.1) hI.out.y.ok).mono (fun e w'' hh => by
          obtain ⟨v', rfl, h1, h2, h3⟩ := hh
          exact ⟨_, rfl, h2, h1⟩)
      simp only [List.set_cons_zero, List.set_cons_succ]
      refine Fx.call1 (v := .bool true) (args := #[va, vb]) rfl rfl (fun _ => by first | (go_simp; done) | (go_simp; rfl)) (fun w' hC => (same_ref _ _ _ _ w' (hC.1.2.sl Ms.len) (hC.2.sl Ms.len) (by have := HPl.out; omega)).mono (fun e w'' hh => by rw [show sameB (pend σ) (pend σ) = true by simp [sameB]] at hh; exact hh)) (by simp only [List.set_cons_zero, List.set_cons_succ]; rfl) ?_
      iterate 2
        first
          | refine Fx.skip rfl rfl (by simp only [List.set_cons_zero, List.set_cons_succ]; rfl) ?_
          | (with_reducible refine Fx.lab0 ?_
             first
               | refine Fx.moveT rfl rfl rfl (by simp only [List.set_cons_zero, List.set_cons_succ]; rfl) ?_
               | refine Fx.assignT rfl rfl rfl (by simp only [List.set_cons_zero, List.set_cons_succ]; rfl) ?_
               | refine Fx.pure_ rfl rfl (fun _ => by go_simp; first | done | rfl) (by simp only [List.set_cons_zero, List.set_cons_succ]; rfl) ?_)
          | (with_reducible refine Fx.lab1 ?_
             refine Fx.look rfl rfl (fun w' hC => by obtain ⟨hc, hf, hl⟩ := Ext.cells hC; go_simp; rfl) (by simp only [List.set_cons_zero, List.set_cons_succ]; rfl) ?_)
      refine Fx.done (fun w8 hC => ?_)
      have HC := Lib.hid hC.1.1
      clear hC
      go_wp2
      go_ret
      exact ⟨rfl, HE2.out.trans (hI.out.x.e.trans HC.out)⟩
end Go.Proofs.Ytkkcdoajdhbofaa
