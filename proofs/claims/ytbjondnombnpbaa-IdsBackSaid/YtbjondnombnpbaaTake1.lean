/-
  ids.Book.Take, where nothing is taken: a nil book, a message that is none, one that waits.
-/
import Derived.Test.YtbjondnombnpbaaRow
import Derived.Test.YtbjondnombnpbaaPlainB2
namespace Go.Proofs.Ytbjondnombnpbaa
open Go.RowKit
attribute [local go_sem] Oper.semAt_some

def TakeR (b mb : Nat) (lv : Value) (σ : BSt) (m : Ms) (w : World) (e : Ending) (w' : World) : Prop :=
  ∃ nv lv', e = .returned (.tuple #[nv, .int .i64 (if rightB m = true then 0 else 100)]) ∧ BookAt w' b mb lv' (takeS σ m) ∧ MsL w' nv (takeL σ m) ∧ Mods (FB b mb lv) w w' ∧
    (∀ y, lv'.ownBlock = some y → lv.ownBlock = some y ∨ w.heap.size ≤ y) ∧ (∀ y, nv.ownBlock = some y → w.heap.size ≤ y ∧ y ≠ b ∧ y ≠ mb ∧ lv'.ownBlock ≠ some y)

theorem take_nil (w : World) (m : Ms) : Calls Try.prog 13 #[.pointer none, m.val] w fun e w' => e = .returned (.tuple #[.slice none 0 0, .int .i64 1]) ∧ Ext w w' := by
  have E1 := Ext.alloc w (.cells #[.pointer none] 25)
  have E2 := Ext.alloc (w.alloc (.cells #[.pointer none] 25)) (.cells #[.int .i64 m.f, .int .u32 m.c, .string m.d] 34)
  have HE := Lib.hid (E1.trans E2)
  clear E1 E2
  unfold Ms.val
  go_enter Try.func13, Try.ntmps13
  go_wp2
  go_ret2
  exact ⟨rfl, HE.out⟩

set_option maxRecDepth 100000 in
set_option maxHeartbeats 1600000 in
theorem take_bad {w : World} {b mb : Nat} {lv : Value} {σ : BSt} (hM : BookAt w b mb lv σ) (m : Ms) (hr : rightB m = false) :
    Calls Try.prog 13 #[.pointer (some ⟨b, 0, none⟩), m.val] w (TakeR b mb lv σ m w) := by
  have E1 := Ext.alloc w (.cells #[.pointer (some ⟨b, 0, none⟩)] 25)
  have E2 := Ext.alloc (w.alloc (.cells #[.pointer (some ⟨b, 0, none⟩)] 25)) (.cells #[.int .i64 m.f, .int .u32 m.c, .string m.d] 34)
  have o1 := (Obj_.new w 25 #[.pointer (some ⟨b, 0, none⟩)] (fun _ => .pointer (some ⟨b, 0, none⟩)) (by intro i hi; simp at hi; subst hi; rfl)).ext E2
  have o2 := box_Ms (w.alloc (.cells #[.pointer (some ⟨b, 0, none⟩)] 25)) m
  have s1 : (w.alloc (.cells #[.pointer (some ⟨b, 0, none⟩)] 25)).heap.size = w.heap.size + 1 := by simp
  rw [s1] at o2
  have HE := Lib.hid (E1.trans E2)
  have hc1 := o1.cell 0 (by simp)
  have hl1 := o1.lt
  obtain ⟨d0, d1, d2⟩ := o2.ms
  have hl2 := o2.lt
  have HM := Lib.hid hM
  have Hr := Lib.hid hr
  clear hM hr E1 E2 o1 o2 s1
  unfold Ms.val
  go_enter Try.func13, Try.ntmps13
  generalize hW : (w.alloc (.cells #[.pointer (some ⟨b, 0, none⟩)] 25)).alloc (.cells #[.int .i64 m.f, .int .u32 m.c, .string m.d] 34) = W at *
  go_upto_region 3 with fail
  refine wp_region_line [(0,1),(1,1),(2,0)] (by kernel_rfl) (by kernel_rfl) (Ext W) (fun _ _ h k => h.trans k) (Ext.refl _) ?_
  refine Fx.look rfl rfl (op_load_Ms' (m := m) hl2 d0 d1 d2 rfl) (by simp only [List.set_cons_zero, List.set_cons_succ]; rfl) ?_
  refine Fx.call1 (v := .bool false) (args := #[m.val]) rfl rfl (fun _ => by first | (go_simp; done) | (go_simp; rfl)) (fun w' hC => (right_ids m w').mono (fun e w'' hh => by rw [Hr.out] at hh; exact hh)) (by simp only [List.set_cons_zero, List.set_cons_succ]; rfl) ?_
  first
    | refine Fx.skip rfl rfl (by simp only [List.set_cons_zero, List.set_cons_succ]; rfl) ?_
    | (with_reducible refine Fx.lab0 ?_
       first
         | refine Fx.moveT rfl rfl rfl (by simp only [List.set_cons_zero, List.set_cons_succ]; rfl) ?_
         | refine Fx.assignT rfl rfl rfl (by simp only [List.set_cons_zero, List.set_cons_succ]; rfl) ?_
         | refine Fx.pure_ rfl rfl (fun _ => by go_simp; first | done | rfl) (by simp only [List.set_cons_zero, List.set_cons_succ]; rfl) ?_)
    | (with_reducible refine Fx.lab1 ?_
       refine Fx.look rfl rfl (fun w' hC => by obtain ⟨hc, hf, hl⟩ := Ext.cells hC; go_simp; rfl) (by simp only [List.set_cons_zero, List.set_cons_succ]; rfl) ?_)
  refine Fx.done (fun w1 hC => ?_)
  have HC := Lib.hid (HE.out.trans hC)
  clear hC d0 d1 d2
  go_wp2
  go_ret2
  have hS : takeS σ m = σ := by unfold takeS; rw [Hr.out]; rfl
  have hL : takeL σ m = [] := by unfold takeL; rw [Hr.out]; rfl
  refine ⟨.slice none 0 0, lv, by rw [Hr.out]; rfl, ?_, ?_, HC.out.mods _, fun y hy => .inl hy, fun y hy => by simp [Value.ownBlock] at hy⟩
  · rw [hS]; exact HM.out.ext HC.out
  · rw [hL]; exact Sl.nil

set_option maxRecDepth 100000 in
set_option maxHeartbeats 1600000 in
theorem take_wait {w : World} {b mb : Nat} {lv : Value} {σ : BSt} (hM : BookAt w b mb lv σ) (hO : σ.Ok) (m : Ms) (hr : rightB m = true) (hn : isNext σ m = false) :
    Calls Try.prog 13 #[.pointer (some ⟨b, 0, none⟩), m.val] w (TakeR b mb lv σ m w) := by
  have E1 := Ext.alloc w (.cells #[.pointer (some ⟨b, 0, none⟩)] 25)
  have E2 := Ext.alloc (w.alloc (.cells #[.pointer (some ⟨b, 0, none⟩)] 25)) (.cells #[.int .i64 m.f, .int .u32 m.c, .string m.d] 34)
  have o1 := (Obj_.new w 25 #[.pointer (some ⟨b, 0, none⟩)] (fun _ => .pointer (some ⟨b, 0, none⟩)) (by intro i hi; simp at hi; subst hi; rfl)).ext E2
  have o2 := box_Ms (w.alloc (.cells #[.pointer (some ⟨b, 0, none⟩)] 25)) m
  have s1 : (w.alloc (.cells #[.pointer (some ⟨b, 0, none⟩)] 25)).heap.size = w.heap.size + 1 := by simp
  rw [s1] at o2
  have HE := Lib.hid (E1.trans E2)
  have HM := Lib.hid (hM.ext (E1.trans E2))
  have HO := Lib.hid hO
  have hc1 := o1.cell 0 (by simp)
  have hl1 := o1.lt
  obtain ⟨d0, d1, d2⟩ := o2.ms
  have hl2 := o2.lt
  have Hr := Lib.hid hr
  have hrm := rightB_iff.1 hr
  have Hn := Lib.hid hn
  have hN : nextB σ m.f = σ.tk m.f.toNat + 1 := by unfold nextB; rw [if_pos ⟨hrm.1, hrm.2.1⟩]
  have hcb : (m.c != σ.tk m.f.toNat + 1) = true := by unfold isNext at hn; simpa using hn
  obtain ⟨q, hq⟩ : ∃ q, σ.tk m.f.toNat + 1 = q := ⟨_, rfl⟩
  rw [hq] at hN hcb
  have HN := Lib.hid hN
  clear hM hr E1 E2 o1 o2 s1 hO hrm hn hN hq
  unfold Ms.val
  go_enter Try.func13, Try.ntmps13
  generalize hW : (w.alloc (.cells #[.pointer (some ⟨b, 0, none⟩)] 25)).alloc (.cells #[.int .i64 m.f, .int .u32 m.c, .string m.d] 34) = W at *
  go_upto_region 3 with fail
  refine wp_region_line [(0,1),(1,1),(2,0)] (by kernel_rfl) (by kernel_rfl) (Ext W) (fun _ _ h k => h.trans k) (Ext.refl _) ?_
  refine Fx.look rfl rfl (op_load_Ms' (m := m) hl2 d0 d1 d2 rfl) (by simp only [List.set_cons_zero, List.set_cons_succ]; rfl) ?_
  refine Fx.call1 (v := .bool true) (args := #[m.val]) rfl rfl (fun _ => by first | (go_simp; done) | (go_simp; rfl)) (fun w' hC => (right_ids m w').mono (fun e w'' hh => by rw [Hr.out] at hh; exact hh)) (by simp only [List.set_cons_zero, List.set_cons_succ]; rfl) ?_
  first
    | refine Fx.skip rfl rfl (by simp only [List.set_cons_zero, List.set_cons_succ]; rfl) ?_
    | (with_reducible refine Fx.lab0 ?_
       first
         | refine Fx.moveT rfl rfl rfl (by simp only [List.set_cons_zero, List.set_cons_succ]; rfl) ?_
         | refine Fx.assignT rfl rfl rfl (by simp only [List.set_cons_zero, List.set_cons_succ]; rfl) ?_
         | refine Fx.pure_ rfl rfl (fun _ => by go_simp; first | done | rfl) (by simp only [List.set_cons_zero, List.set_cons_succ]; rfl) ?_)
    | (with_reducible refine Fx.lab1 ?_
       refine Fx.look rfl rfl (fun w' hC => by obtain ⟨hc, hf, hl⟩ := Ext.cells hC; go_simp; rfl) (by simp only [List.set_cons_zero, List.set_cons_succ]; rfl) ?_)
  refine Fx.done (fun w1 hC => ?_)
  obtain ⟨xc, xf, xl⟩ := hC.cells
  replace hc1 := (xc _ _ hl1).trans hc1
  replace d0 := (xc _ _ hl2).trans d0
  replace d1 := (xc _ _ hl2).trans d1
  replace d2 := (xc _ _ hl2).trans d2
  replace hl1 := xl _ hl1
  replace hl2 := xl _ hl2
  have HE1 := Lib.hid (HE.out.trans hC)
  have HM1 := Lib.hid (HM.out.ext hC)
  clear xc xf xl hC
  go_upto_region 7 with (go_at_call 15; refine (next_at HM1.out HO.out _).mono ?_; rw [HN.out]; rintro e w' ⟨rfl, rfl⟩)
  refine wp_region_line [(0,1),(1,1),(2,3)] (by kernel_rfl) (by kernel_rfl) (Ext w') (fun _ _ h k => h.trans k) (Ext.refl _) ?_
  first
    | refine Fx.skip rfl rfl (by simp only [List.set_cons_zero, List.set_cons_succ]; rfl) ?_
    | (with_reducible refine Fx.lab0 ?_
       first
         | refine Fx.moveT rfl rfl rfl (by simp only [List.set_cons_zero, List.set_cons_succ]; rfl) ?_
         | refine Fx.assignT rfl rfl rfl (by simp only [List.set_cons_zero, List.set_cons_succ]; rfl) ?_
         | refine Fx.pure_ rfl rfl (fun _ => by go_simp; first | done | rfl) (by simp only [List.set_cons_zero, List.set_cons_succ]; rfl) ?_)
    | (with_reducible refine Fx.lab1 ?_
       refine Fx.look rfl rfl (fun w' hC => by obtain ⟨hc, hf, hl⟩ := Ext.cells hC; go_simp; rfl) (by simp only [List.set_cons_zero, List.set_cons_succ]; rfl) ?_)
  refine Fx.look rfl rfl (op_load_Ms' (m := m) hl2 d0 d1 d2 rfl) (by simp only [List.set_cons_zero, List.set_cons_succ]; rfl) ?_
  refine Fx.eff (fun _ w'' => BookAt w'' b mb lv (waitS σ m) ∧ Mods (FB b mb lv) w' w'') (fun _ _ _ h k => ⟨h.1.ext k, h.2.then_ k⟩) rfl rfl (fun w'' hC => ?_) (fun u => ?_)
  · unfold stepAt
    rw [show (execOp _ _).run Try.prog w'' = .ok (.enter 25 #[.pointer (some ⟨b, 0, none⟩), m.val]) w'' from by first | (go_simp; done) | (go_simp; rfl)]
    exact (wait_at (HM1.out.ext hC) HO.out m).mono (fun e w3 hh => by
      obtain ⟨⟨v, rfl⟩, h2, h3⟩ := hh
      exact ⟨v, rfl, h2, h3.after hC⟩)
  simp only [List.set_cons_zero, List.set_cons_succ]
  refine Fx.done (fun w2 hC => ?_)
  have HC := Lib.hid hC
  clear hC d0 d1 d2
  go_wp2
  go_ret2
  have hS : takeS σ m = waitS σ m := by unfold takeS; rw [Hr.out, Hn.out]; rfl
  have hL : takeL σ m = [] := by unfold takeL; rw [Hr.out, Hn.out]; rfl
  refine ⟨.slice none 0 0, lv, by rw [Hr.out]; rfl, ?_, ?_, HC.out.2.after HE1.out, fun y hy => .inl hy, fun y hy => by simp [Value.ownBlock] at hy⟩
  · rw [hS]; exact HC.out.1
  · rw [hL]; exact Sl.nil
end Go.Proofs.Ytbjondnombnpbaa
