/-
  rostrumlaw10.IdsUnpacks: what it computes.
-/
import Derived.Test.YtbjondnombnpbaaBackQ
import Derived.Test.YtbjondnombnpbaaNext
namespace Go.Proofs.Ytbjondnombnpbaa
open Go.RowKit
attribute [local go_sem] Oper.semAt_some

theorem UnpR.slc {w : World} {t : ByteArray} {e : Ending} {w' : World} (h : UnpR w t e w') : ∃ A cap, e = .returned (.tuple #[.slice A (unpL t).length cap, .int .i64 (unpE t)]) ∧ MsL w' (.slice A (unpL t).length cap) (unpL t) ∧ Ext w w' := by
  obtain ⟨v, rfl, h1, h2⟩ := h
  obtain ⟨A, cap, rfl, -⟩ := h1.val
  exact ⟨A, cap, rfl, h1, h2⟩
set_option maxRecDepth 100000 in
set_option maxHeartbeats 3200000 in
theorem unpacks_law (w : World) (s : ByteArray) : Calls Try.prog 5 #[.string s] w (LawP w) := by
  obtain ⟨mn, hmn⟩ : ∃ mn, min s.size 10000 = mn := ⟨_, rfl⟩
  have hmi : min (s.size : Int) 10000 = (mn : Int) := by omega
  have hms : mn ≤ s.size := by omega
  have hmsI : (mn : Int) ≤ s.size := by omega
  have htz : (s.extract 0 mn).size ≤ 100000 := by rw [ByteArray.size_extract]; omega
  have Htz := Lib.hid htz
  clear hmn htz
  go_enter Try.func5, Try.ntmps5
  go_upto_region 2 with (go_at_call 10; refine (shown_at _).mono ?_; rintro e w1 ⟨rfl, hE1⟩; have H1 := Lib.hid hE1; clear hE1)
  go_upto_region 3 with fail
  generalize s.extract 0 mn = t at *
  clear hmi hms hmsI
  obtain ⟨L, hL⟩ : ∃ L, unpL t = L := ⟨_, rfl⟩
  obtain ⟨x, hx⟩ : ∃ x, unpE t = x := ⟨_, rfl⟩
  have hL64 := unpL_len t
  rw [hL] at hL64
  have HL := Lib.hid hL
  have HX := Lib.hid hx
  have HL64 := Lib.hid hL64
  clear hL hx hL64
  go_upto_region 4 with (go_at_call 21; refine (unpack_at _ t Htz.out).mono ?_; intro e w2 he; obtain ⟨A, cap, he1, he2, he3⟩ := he.slc; rw [HL.out, HX.out] at he1; rw [HL.out] at he2; subst he1; have HM := Lib.hid he2; have H2 := Lib.hid he3; clear he he2 he3)
  go_upto_region 5 with (go_at_call 22; refine (unpack_ref _ t Htz.out).mono ?_; intro e w3 he; obtain ⟨B, bcap, he1, he2, he3⟩ := he.slc; rw [HL.out, HX.out] at he1; rw [HL.out] at he2; subst he1; have HM2 := Lib.hid he2; have H3 := Lib.hid he3; clear he he2 he3)
  refine wp_region_line [(0,0),(1,0),(2,0),(3,0),(4,1),(5,0),(6,0),(7,0),(8,0),(9,0),(10,0),(11,0)] (by kernel_rfl) (by kernel_rfl) (Ext w3) (fun _ _ h k => h.trans k) (Ext.refl _) ?_
  iterate 4
    first
      | refine Fx.skip rfl rfl (by simp only [List.set_cons_zero, List.set_cons_succ]; rfl) ?_
      | (with_reducible refine Fx.lab0 ?_
         first
           | refine Fx.moveT rfl rfl rfl (by simp only [List.set_cons_zero, List.set_cons_succ]; rfl) ?_
           | refine Fx.assignT rfl rfl rfl (by simp only [List.set_cons_zero, List.set_cons_succ]; rfl) ?_
           | refine Fx.pure_ rfl rfl (fun _ => by go_simp; first | done | rfl) (by simp only [List.set_cons_zero, List.set_cons_succ]; rfl) ?_)
      | (with_reducible refine Fx.lab1 ?_
         refine Fx.look rfl rfl (fun w' hC => by obtain ⟨hc, hf, hl⟩ := Ext.cells hC; go_simp; rfl) (by simp only [List.set_cons_zero, List.set_cons_succ]; rfl) ?_)
  refine Fx.call1 (v := .bool true) (args := #[.slice A L.length cap, .slice B L.length bcap]) rfl rfl (fun _ => by first | (go_simp; done) | (go_simp; rfl)) (fun w' hC => (same_ref _ _ L L w' ((HM.out.ext H3.out).ext hC) (HM2.out.ext hC) (by have := HL64.out; omega)).mono (fun e w'' hh => by rw [show sameB L L = true by simp [sameB]] at hh; exact hh)) (by simp only [List.set_cons_zero, List.set_cons_succ]; rfl) ?_
  iterate 7
    first
      | refine Fx.skip rfl rfl (by simp only [List.set_cons_zero, List.set_cons_succ]; rfl) ?_
      | (with_reducible refine Fx.lab0 ?_
         first
           | refine Fx.moveT rfl rfl rfl (by simp only [List.set_cons_zero, List.set_cons_succ]; rfl) ?_
           | refine Fx.assignT rfl rfl rfl (by simp only [List.set_cons_zero, List.set_cons_succ]; rfl) ?_
           | refine Fx.pure_ rfl rfl (fun _ => by go_simp; first | done | rfl) (by simp only [List.set_cons_zero, List.set_cons_succ]; rfl) ?_)
      | (with_reducible refine Fx.lab1 ?_
         refine Fx.look rfl rfl (fun w' hC => by obtain ⟨hc, hf, hl⟩ := Ext.cells hC; go_simp; rfl) (by simp only [List.set_cons_zero, List.set_cons_succ]; rfl) ?_)
  refine Fx.done (fun w4 hC => ?_)
  have HC := Lib.hid hC
  clear hC
  go_wp2
  go_ret
  exact ⟨by simp, ((H1.out.trans H2.out).trans H3.out).trans HC.out⟩
end Go.Proofs.Ytbjondnombnpbaa
