/-
  ids.Book: wait.
-/
import Derived.Test.YtbjondnombnpbaaHas
import Derived.Deep.Cut
namespace Go.Proofs.Ytbjondnombnpbaa
open Go.RowKit
attribute [local go_sem] Oper.semAt_some

def WaitR (b mb : Nat) (lv : Value) (σ' : BSt) (w : World) (e : Ending) (w' : World) : Prop :=
  (∃ v, e = .returned v) ∧ BookAt w' b mb lv σ' ∧ Mods (FB b mb lv) w w'

set_option maxRecDepth 100000 in
set_option maxHeartbeats 1600000 in
theorem wait_at {w : World} {b mb : Nat} {lv : Value} {σ : BSt} (hM : BookAt w b mb lv σ) (hO : σ.Ok) (m : Ms) :
    Calls Try.prog 25 #[.pointer (some ⟨b, 0, none⟩), m.val] w (WaitR b mb lv (waitS σ m) w) := by
  have hE0 := Ext.alloc w (.cells #[.int .i64 m.f, .int .u32 m.c, .string m.d] 34)
  have hbx := box_Ms w m
  obtain ⟨e0, e1, e2⟩ := hbx.ms
  have el := hbx.lt
  have HM := Lib.hid (hM.ext hE0)
  have HO := Lib.hid hO
  obtain ⟨r, hr⟩ : ∃ r, hasB σ m.f m.c = r := ⟨_, rfl⟩
  have Hr := Lib.hid hr
  have hE := Lib.hid hE0
  clear hM hO hbx hE0 hr
  unfold Ms.val
  go_enter Try.func25, Try.ntmps25
  generalize hW : w.alloc (.cells #[.int .i64 m.f, .int .u32 m.c, .string m.d] 34) = W at *
  go_upto_region 1 with fail
  refine wp_region_line [(0,0),(1,0),(2,1),(3,1)] (by kernel_rfl) (by kernel_rfl) (Ext W) (fun _ _ h k => h.trans k) (Ext.refl _) ?_
  iterate 2
    first
      | refine Fx.skip rfl rfl (by simp only [List.set_cons_zero, List.set_cons_succ]; rfl) ?_
      | (with_reducible refine Fx.lab0 ?_
         first
           | refine Fx.moveT rfl rfl rfl (by simp only [List.set_cons_zero, List.set_cons_succ]; rfl) ?_
           | refine Fx.assignT rfl rfl rfl (by simp only [List.set_cons_zero, List.set_cons_succ]; rfl) ?_
           | refine Fx.pure_ rfl rfl (fun _ => by go_simp; first | done | rfl) (by simp only [List.set_cons_zero, List.set_cons_succ]; rfl) ?_)
      | (with_reducible refine Fx.lab1 ?_
         refine Fx.look rfl rfl (fun w' hC => by obtain ⟨hc, hf, hl⟩ := Ext.cells hC; go_simp; rfl) (by simp only [List.set_cons_zero, List.set_cons_succ]; rfl) ?_)
  refine Fx.look rfl rfl (op_load_Id' el e0 e1 rfl) (by simp only [List.set_cons_zero, List.set_cons_succ]; rfl) ?_
  refine Fx.call1 (v := .bool r) (args := #[.pointer (some ⟨b, 0, none⟩), .agg #[.int .i64 m.f, .int .u32 m.c]]) rfl rfl (fun _ => by first | (go_simp; done) | (go_simp; rfl)) (fun w' hC => (has_at (HM.out.ext hC) HO.out m.f m.c).mono (fun e w'' hh => by rw [Hr.out] at hh; exact hh)) (by simp only [List.set_cons_zero, List.set_cons_succ]; rfl) ?_
  refine Fx.done (fun w1 hC => ?_)
  have HC := Lib.hid hC
  have HM1 := Lib.hid (HM.out.ext hC)
  cases r with
  | true =>
    clear hC
    go_wp2
    have hs : waitS σ m = σ := by unfold waitS; rw [Hr.out]; rfl
    refine bodyPost_ret (results_none rfl _ _ _) rfl ?_
    exact ⟨⟨_, rfl⟩, by rw [hs]; exact HM1.out, (hE.out.trans HC.out).mods _⟩
  | false =>
    obtain ⟨xc, xf, xl⟩ := hC.cells
    replace e0 := (xc _ _ el).trans e0
    replace e1 := (xc _ _ el).trans e1
    replace e2 := (xc _ _ el).trans e2
    replace el := xl _ el
    obtain ⟨c16, c17, cl, fb, lb, lm⟩ := HM1.out.cells
    clear xc xf xl hC c16 cl fb lm
    have hmn : ∀ w, (binOp .eql 50 (.map (some mb)) (.map none)).run Try.prog w = .ok (.bool false) w := fun w => run_eql_map_nil w _ _ _ (some mb) Try.underlying50
    go_upto_region 4 with fail
    refine wp_region_plan [(0,0),(1,0),(2,0),(3,1),(4,0),(5,1),(6,1),(7,3)] (by kernel_rfl) (by kernel_rfl) (by kernel_rfl) (Ext w1) (fun _ _ h k => h.trans k) (Ext.drawn _ _) ?_
    iterate 5
      first
        | refine Fx.skip rfl rfl (by simp only [List.set_cons_zero, List.set_cons_succ]; rfl) ?_
        | (with_reducible refine Fx.lab0 ?_
           first
             | refine Fx.moveT rfl rfl rfl (by simp only [List.set_cons_zero, List.set_cons_succ]; rfl) ?_
             | refine Fx.assignT rfl rfl rfl (by simp only [List.set_cons_zero, List.set_cons_succ]; rfl) ?_
             | refine Fx.pure_ rfl rfl (fun _ => by go_simp; first | done | rfl) (by simp only [List.set_cons_zero, List.set_cons_succ]; rfl) ?_)
        | (with_reducible refine Fx.lab1 ?_
           refine Fx.look rfl rfl (fun w' hC => by obtain ⟨hc, hf, hl⟩ := Ext.cells hC; go_simp; rfl) (by simp only [List.set_cons_zero, List.set_cons_succ]; rfl) ?_)
    refine Fx.look rfl rfl (op_load_Id' el e0 e1 rfl) (by simp only [List.set_cons_zero, List.set_cons_succ]; rfl) ?_
    refine Fx.look rfl rfl (op_load_Ms' el e0 e1 e2 rfl) (by simp only [List.set_cons_zero, List.set_cons_succ]; rfl) ?_
    refine Fx.eff0 (fun w' => MapIs w' mb idV Ms.val (kput (m.f, m.c) m σ.wt) ∧ Mods (· = mb) w1 w') (fun _ _ h k => ⟨h.1.ext k, h.2.then_ k⟩) rfl rfl (fun w' hC => ?_) ?_
    · refine stepAt_mono (stepAt_upd (k := (m.f, m.c)) (v := m) (HM1.out.map.ext hC) keysId Try.underlying50 rfl rfl rfl) (fun _ w'' hh => ⟨hh.1, hh.2.after hC⟩)
    refine Fx.done (fun w2 hC => ?_)
    have H2 := Lib.hid hC
    clear hC
    go_wp2
    go_end0
    have hs : waitS σ m = { σ with wt := kput (m.f, m.c) m σ.wt } := by unfold waitS; rw [Hr.out]; rfl
    rw [hs]
    have hM1 := HM1.out
    refine ⟨⟨_, rfl⟩, ⟨hM1.obj.mods H2.out.2 (fun h => hM1.d1 h), H2.out.1, hM1.log.mods H2.out.2 (fun x hx h => (hM1.d4 x hx).2 h), hM1.d1, hM1.d4⟩, ?_⟩
    exact (((hE.out.trans HC.out).mods _).trans (H2.out.2.mono (T := FB b mb lv) (fun x _ h => .inr (.inl h))) (fun _ _ h => h))
end Go.Proofs.Ytbjondnombnpbaa
