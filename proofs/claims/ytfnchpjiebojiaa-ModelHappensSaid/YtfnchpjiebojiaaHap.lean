/-
  isNil, isNode, refuse; Happen at a nil model; the looks at a model.
-/
import Derived.Test.YtfnchpjiebojiaaDeliver2
namespace Go.Proofs.Ytfnchpjiebojiaa
open Go.RowKit

theorem isNil_nil (w : World) : Calls Try.prog 22 #[.pointer none] w fun e w' => e = .returned (.bool true) ∧ w' = w := by
  go_enter Try.func22, Try.ntmps22
  go_wp2
  go_ret
  exact ⟨rfl, rfl⟩
theorem isNil_at {w : World} {b sb mb : Nat} {lv : Value} {σ : MSt} (hM : ModelAt w b sb mb lv σ) : Calls Try.prog 22 #[.pointer (some ⟨b, 0, none⟩)] w fun e w' => e = .returned (.bool false) ∧ w' = w := by
  obtain ⟨c0, c1, c18, cl, sa, sd, fb, fs, lb, ls, lm⟩ := hM.cells
  clear hM c0 c18 cl sa sd fb fs ls lm
  have hne : ∀ w, (binOp .eql 63 (.map (some mb)) (.map none)).run Try.prog w = .ok (.bool false) w := fun w => run_eql_map_nil w _ _ _ (some mb) Try.underlying63
  go_enter Try.func22, Try.ntmps22
  go_wp2
  go_ret
  exact ⟨rfl, rfl⟩
theorem isNode_at {w : World} {b sb mb : Nat} {lv : Value} {σ : MSt} (hM : ModelAt w b sb mb lv σ) (n : Int) : Calls Try.prog 26 #[.pointer (some ⟨b, 0, none⟩), .int .i64 n] w fun e w' => e = .returned (.bool (decide (0 ≤ n) && decide (n < σ.n))) ∧ w' = w := by
  obtain ⟨c0, c1, c18, cl, sa, sd, fb, fs, lb, ls, lm⟩ := hM.cells
  clear hM c1 c18 cl sa sd fb fs ls lm
  by_cases h0 : 0 ≤ n
  · go_enter Try.func26, Try.ntmps26
    go_wp2
    go_ret
    simp [h0]
  · go_enter Try.func26, Try.ntmps26
    go_wp2
    go_ret
    simp [show ¬ (0 ≤ n) from by omega]
theorem refuse_at (w : World) (b : Nat) (h : Hp) : Calls Try.prog 24 #[.pointer (some ⟨b, 0, none⟩), h.val] w fun e w' => e = .returned (.bool true) ∧ Ext w w' := by
  unfold Hp.val
  have hE0 := Ext.alloc w (.cells #[.int .i64 h.k, .int .i64 h.n, .int .i64 h.m.f, .int .u32 h.m.c, .string h.m.d] 36)
  have hE := Lib.hid hE0
  clear hE0
  go_enter Try.func24, Try.ntmps24
  go_wp2
  go_ret
  exact ⟨rfl, hE.out⟩
theorem happen_nil (w : World) (h : Hp) : Calls Try.prog 14 #[.pointer none, h.val] w fun e w' => e = .returned (.int .i64 1) ∧ Ext w w' := by
  unfold Hp.val
  have hE0 := Ext.alloc w (.cells #[.int .i64 h.k, .int .i64 h.n, .int .i64 h.m.f, .int .u32 h.m.c, .string h.m.d] 36)
  have hE := Lib.hid hE0
  clear hE0
  go_enter Try.func14, Try.ntmps14
  go_wp2_with (go_at_call 22; refine (isNil_nil _).mono ?_; rintro e w' ⟨rfl, rfl⟩)
  go_ret
  exact ⟨rfl, hE.out⟩
theorem log_nil (w : World) : Calls Try.prog 17 #[.pointer none] w fun e w' => e = .returned (.slice none 0 0) ∧ w' = w := by
  go_enter Try.func17, Try.ntmps17
  go_wp2_with (go_at_call 22; refine (isNil_nil _).mono ?_; rintro e w' ⟨rfl, rfl⟩)
  go_ret
  exact ⟨rfl, rfl⟩
theorem behind_nil (w : World) (n : Int) : Calls Try.prog 18 #[.pointer none, .int .i64 n] w fun e w' => e = .returned (.int .i64 (-1)) ∧ w' = w := by
  go_enter Try.func18, Try.ntmps18
  go_wp2_with (go_at_call 22; refine (isNil_nil _).mono ?_; rintro e w' ⟨rfl, rfl⟩)
  go_ret
  exact ⟨rfl, rfl⟩
theorem log_at {w : World} {b sb mb : Nat} {lv : Value} {σ : MSt} (hM : ModelAt w b sb mb lv σ) (hlen : σ.log.length ≤ 1000000) : Calls Try.prog 17 #[.pointer (some ⟨b, 0, none⟩)] w (CloneR w σ.log) := by
  have HM := Lib.hid hM
  have hL := Lib.hid (hM.log.sl Ms.len)
  obtain ⟨c0, c1, c18, cl, sa, sd, fb, fs, lb, ls, lm⟩ := hM.cells
  clear hM c0 c1 cl sa sd fb fs ls lm
  have Hlen := Lib.hid hlen
  clear hlen
  go_enter Try.func17, Try.ntmps17
  go_wp2_with (first
    | (go_at_call 22; refine (isNil_at HM.out).mono ?_; rintro e w' ⟨rfl, rfl⟩)
    | (go_at_call 30; refine (clone_ms _ σ.log _ hL.out (Nat.le_trans Hlen.out (by decide))).mono ?_; rintro e w' ⟨v', rfl, h⟩))
  go_ret
  exact ⟨v', rfl, h⟩

set_option maxRecDepth 100000 in
set_option maxHeartbeats 1600000 in
theorem behind_at {w : World} {b sb mb : Nat} {lv : Value} {σ : MSt} (hM : ModelAt w b sb mb lv σ) (hO : σ.Ok) (hlen : σ.log.length ≤ 1000000) (nd : Nat) (hlt : nd < σ.n) : Calls Try.prog 18 #[.pointer (some ⟨b, 0, none⟩), .int .i64 nd] w fun e w' => e = .returned (.int .i64 (σ.log.length - σ.del nd)) ∧ Ext w w' := by
  have HM := Lib.hid hM
  obtain ⟨lA, lcap, rfl⟩ : ∃ A cap, lv = .slice A σ.log.length cap := by obtain ⟨A, cap, e, _⟩ := hM.log.val; exact ⟨_, _, e⟩
  obtain ⟨c0, c1, c18, cl, sa, sd, fb, fs, lb, ls, lm⟩ := hM.cells
  replace sd := sd nd hlt
  have h1 := hO.del nd
  have hn16 := hO.n16
  generalize σ.log.length = L at *
  generalize σ.del nd = q at *
  have hsub : IntKind.i64.wrap ((L : Int) - q) = (L : Int) - q := IntWalk.i64_in _ ⟨by omega, by omega⟩
  have hnd : (decide (0 ≤ (nd : Int)) && decide ((nd : Int) < σ.n)) = true := by simp; omega
  have Hnd := Lib.hid hnd
  clear hM c1 cl sa fb fs lm hO hlen hnd
  have hE := Lib.hid (Ext.refl w)
  go_enter Try.func18, Try.ntmps18
  go_wp2_with (first
    | (go_at_call 22; refine (isNil_at HM.out).mono ?_; rintro e w' ⟨rfl, rfl⟩)
    | (go_at_call 26; refine (isNode_at HM.out _).mono ?_; rw [Hnd.out]; rintro e w' ⟨rfl, rfl⟩))
  refine wp_region_plan [(0,0),(1,0),(2,0),(3,1),(4,0),(5,0),(6,0),(7,0),(8,1),(9,0),(10,0),(11,0),(12,1),(13,0),(14,0)] (by kernel_rfl) (by kernel_rfl) (by kernel_rfl) (Ext w') (fun _ _ h k => h.trans k) (Ext.drawn _ _) ?_
  iterate 15
    first
      | refine Fx.skip rfl rfl (by simp only [List.set_cons_zero, List.set_cons_succ]; rfl) ?_
      | (with_reducible refine Fx.lab0 ?_
         first
           | refine Fx.moveT rfl rfl rfl (by simp only [List.set_cons_zero, List.set_cons_succ]; rfl) ?_
           | refine Fx.assignT rfl rfl rfl (by simp only [List.set_cons_zero, List.set_cons_succ]; rfl) ?_
           | refine Fx.pure_ rfl rfl (fun _ => by go_simp; first | done | rfl) (by simp only [List.set_cons_zero, List.set_cons_succ]; rfl) ?_)
      | (with_reducible refine Fx.lab1 ?_
         refine Fx.look rfl rfl (fun w' hC => by obtain ⟨hc, hf, hl⟩ := Ext.cells hC; go_simp; rfl) (by simp only [List.set_cons_zero, List.set_cons_succ]; rfl) ?_)
  refine Fx.done (fun w1 hC => ?_)
  go_wp2
  go_ret
  exact ⟨rfl, hC⟩
theorem behind_not {w : World} {b sb mb : Nat} {lv : Value} {σ : MSt} (hM : ModelAt w b sb mb lv σ) (nd : Int) (hlt : ¬ (0 ≤ nd ∧ nd < σ.n)) : Calls Try.prog 18 #[.pointer (some ⟨b, 0, none⟩), .int .i64 nd] w fun e w' => e = .returned (.int .i64 (-1)) ∧ w' = w := by
  have HM := Lib.hid hM
  have hnd : (decide (0 ≤ (nd : Int)) && decide ((nd : Int) < σ.n)) = false := by simpa using hlt
  have Hnd := Lib.hid hnd
  clear hM hnd hlt
  go_enter Try.func18, Try.ntmps18
  go_wp2_with (first
    | (go_at_call 22; refine (isNil_at HM.out).mono ?_; rintro e w' ⟨rfl, rfl⟩)
    | (go_at_call 26; refine (isNode_at HM.out _).mono ?_; rw [Hnd.out]; rintro e w' ⟨rfl, rfl⟩))
  go_ret
  exact ⟨rfl, rfl⟩
end Go.Proofs.Ytfnchpjiebojiaa
