/-
  rostrumlaw10.IdsPacks: what it computes.
-/
import Derived.Test.YtbjondnombnpbaaPackRef
import Derived.Test.YtbjondnombnpbaaNext
namespace Go.Proofs.Ytbjondnombnpbaa
open Go.RowKit
attribute [local go_sem] Oper.semAt_some

set_option maxRecDepth 100000 in
set_option maxHeartbeats 3200000 in
theorem packs_law (w : World) (v : Value) (l : List Ms) (hl : MsL w v l) : Calls Try.prog 4 #[v] w (LawP w) := by
  have HL := Lib.hid hl
  obtain ⟨A, cap, rfl, hcap, hmax⟩ := hl.val
  clear hl hcap hmax
  go_enter Try.func4, Try.ntmps4
  go_upto_region 2 with (go_at_call 10; refine (shown_at _).mono ?_; rintro e w1 ⟨rfl, hE1⟩; have H1 := Lib.hid hE1; clear hE1)
  go_upto_region 3 with (go_at_call 11; refine (cut_at _ _ l (HL.out.ext H1.out)).mono ?_; rintro e w2 ⟨fv, rfl, hown, hE2, hblk⟩; obtain ⟨fA, fcap, rfl, hfc⟩ := hown.val; have HF := Lib.hid hown; have H2 := Lib.hid hE2; clear hown hE2 hblk hfc)
  have hL80 : (cutL l).length ≤ 80 := cutL_len l
  have HL2 := Lib.hid (HF.out.sl Ms.len)
  have HE2 := Lib.hid (H1.out.trans H2.out)
  clear HF HL H1 H2
  generalize cutL l = L at *
  obtain ⟨S, hS⟩ : ∃ S, packS L = S := ⟨_, rfl⟩
  obtain ⟨x, hx⟩ : ∃ x, packE L = x := ⟨_, rfl⟩
  have HS := Lib.hid hS
  have HX := Lib.hid hx
  clear hS hx
  go_upto_region 4 with (go_at_call 17; refine (pack_at _ _ L HL2.out).mono ?_; rintro e w3 ⟨he, hE3⟩; rw [HS.out, HX.out] at he; subst he; have H3 := Lib.hid hE3; clear hE3)
  go_upto_region 5 with (go_at_call 18; refine (pack_ref _ _ L (HL2.out.ext H3.out)).mono ?_; rintro e w4 ⟨he, hE4⟩; rw [HS.out, HX.out] at he; subst he; have H4 := Lib.hid hE4; clear hE4)
  have HE4 := Lib.hid (H3.out.trans H4.out)
  clear H3 H4
  go_wp2
  go_loopw [8, 9] (fun q p wr => ∃ (k : Nat), k ≤ L.length ∧ p = .int .i64 k ∧ q = .bool true ∧ Hid (Ext w2 wr)) (fun _ p _ => L.length - (intOf p).toNat)
  case atStart => exact ⟨0, Nat.zero_le _, rfl, rfl, HE4⟩
  case round =>
    obtain ⟨k, hk, rfl, rfl, hE⟩ := hrel
    by_cases hlt : k < L.length
    · obtain ⟨jb, joff, rfl, hjbl, j0, j1, j2⟩ := Sl.at3 (HL2.out.ext hE.out) hlt
      have hwk : IntKind.i64.wrap ((k : Int) + 1) = (k : Int) + 1 := IntWalk.i64_in _ ⟨by omega, by omega⟩
      generalize L[k] = m at *
      obtain ⟨r, hr⟩ : ∃ r, rightB m = r := ⟨_, rfl⟩
      have Hr := Lib.hid hr
      have hrr : (r == r) = true := by simp
      clear hr
      go_upto_region 9 with fail
      refine wp_region_plan [(0,0),(1,0),(2,0),(3,0),(4,0),(5,1),(6,1),(7,0),(8,0),(9,0),(10,1),(11,1),(12,0),(13,0),(14,0)] (by kernel_rfl) (by kernel_rfl) (by kernel_rfl) (Ext wr) (fun _ _ h k => h.trans k) (Ext.drawn _ _) ?_
      iterate 5
        first
          | refine Fx.skip rfl rfl (by simp only [List.set_cons_zero, List.set_cons_succ]; rfl) ?_
          | (with_reducible refine Fx.lab0 ?_
             first
               | refine Fx.moveT rfl rfl rfl (by simp only [List.set_cons_zero, List.set_cons_succ]; rfl) ?_
               | refine Fx.assignT rfl rfl rfl (by simp only [List.set_cons_zero, List.set_cons_succ]; rfl) ?_
               | refine Fx.pure_ rfl rfl (fun _ => by go_simp; first | done | rfl) (by simp only [List.set_cons_zero, List.set_cons_succ]; rfl) ?_)
          | (with_reducible refine Fx.lab1 ?_
             refine Fx.look rfl rfl (fun w' hC => by obtain ⟨hc, hf, hl⟩ := Ext.cells hC; go_simp; rfl) (by simp only [List.set_cons_zero, List.set_cons_succ]; rfl) ?_)
      refine Fx.look rfl rfl (op_load_Ms' (m := m) hjbl j0 j1 j2 rfl) (by simp only [List.set_cons_zero, List.set_cons_succ]; rfl) ?_
      refine Fx.call1 (v := .bool r) (args := #[m.val]) rfl rfl (fun _ => by first | (go_simp; done) | (go_simp; rfl)) (fun w' hC => (right_ids m w').mono (fun e w'' hh => by rw [Hr.out] at hh; exact hh)) (by simp only [List.set_cons_zero, List.set_cons_succ]; rfl) ?_
      iterate 3
        first
          | refine Fx.skip rfl rfl (by simp only [List.set_cons_zero, List.set_cons_succ]; rfl) ?_
          | (with_reducible refine Fx.lab0 ?_
             first
               | refine Fx.moveT rfl rfl rfl (by simp only [List.set_cons_zero, List.set_cons_succ]; rfl) ?_
               | refine Fx.assignT rfl rfl rfl (by simp only [List.set_cons_zero, List.set_cons_succ]; rfl) ?_
               | refine Fx.pure_ rfl rfl (fun _ => by go_simp; first | done | rfl) (by simp only [List.set_cons_zero, List.set_cons_succ]; rfl) ?_)
          | (with_reducible refine Fx.lab1 ?_
             refine Fx.look rfl rfl (fun w' hC => by obtain ⟨hc, hf, hl⟩ := Ext.cells hC; go_simp; rfl) (by simp only [List.set_cons_zero, List.set_cons_succ]; rfl) ?_)
      refine Fx.look rfl rfl (op_load_Ms' (m := m) hjbl j0 j1 j2 rfl) (by simp only [List.set_cons_zero, List.set_cons_succ]; rfl) ?_
      refine Fx.call1 (v := .bool r) (args := #[m.val]) rfl rfl (fun _ => by first | (go_simp; done) | (go_simp; rfl)) (fun w' hC => (right_ref m w').mono (fun e w'' hh => by rw [Hr.out] at hh; exact hh)) (by simp only [List.set_cons_zero, List.set_cons_succ]; rfl) ?_
      iterate 3
        first
          | refine Fx.skip rfl rfl (by simp only [List.set_cons_zero, List.set_cons_succ]; rfl) ?_
          | (with_reducible refine Fx.lab0 ?_
             first
               | refine Fx.moveT rfl rfl rfl (by simp only [List.set_cons_zero, List.set_cons_succ]; rfl) ?_
               | refine Fx.assignT rfl rfl rfl (by simp only [List.set_cons_zero, List.set_cons_succ]; rfl) ?_
               | refine Fx.pure_ rfl rfl (fun _ => by go_simp; first | done | rfl) (by simp only [List.set_cons_zero, List.set_cons_succ]; rfl) ?_)
          | (with_reducible refine Fx.lab1 ?_
             refine Fx.look rfl rfl (fun w' hC => by obtain ⟨hc, hf, hl⟩ := Ext.cells hC; go_simp; rfl) (by simp only [List.set_cons_zero, List.set_cons_succ]; rfl) ?_)
      refine Fx.done (fun w5 hC => ?_)
      have HC := Lib.hid (hE.out.trans hC)
      clear hC j0 j1 j2
      go_wp2
      go_roundw
      case rel => exact ⟨k + 1, by omega, by go_num, rfl, HC⟩
      case measure => simp [intOf]; omega
    · go_wp2
      go_ret
      exact ⟨by simp, HE2.out.trans hE.out⟩
end Go.Proofs.Ytbjondnombnpbaa
