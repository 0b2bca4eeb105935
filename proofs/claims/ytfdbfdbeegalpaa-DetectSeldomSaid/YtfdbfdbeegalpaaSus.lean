/-
  detect.Detector: Suspects, and what Tick asks of each node.
-/
import Derived.Test.YtfdbfdbeegalpaaAll
namespace Go.Proofs.Ytfdbfdbeegalpaa
open Go.RowKit
attribute [local go_sem] Oper.semAt_some

theorem all_at {w : World} {b mb : Nat} {σ : DSt} (hM : DetAt w b mb σ) (hn16 : σ.n ≤ 16) (g : FuncId) (lb : Array Value) (heg : ∀ args w, (callFunc g args).run Try.prog w = .ok (.enter g args) w) (p : Nat → Bool)
    (hcall : ∀ i, i < σ.n → ∀ W, Ext w W → Calls Try.prog g (#[.int .i64 i, (σ.nd i).val] ++ lb) W (fun e W' => e = .returned (.bool (p i)) ∧ Ext W W')) :
    Calls Try.prog 17 #[.pointer (some ⟨b, 0, none⟩), .func (.func g) #[] lb] w (AllR w (flt p σ.n)) := (callsIn_wide (n := 5)).1 (all_in hM hn16 g lb heg p hcall)
theorem susF_at (i : Int) (x : Nd) (w : World) : Calls Try.prog 21 #[.int .i64 i, x.val] w (fun e w' => e = .returned (.bool x.s) ∧ Ext w w') := by
  have bx := box_Nd w x
  obtain ⟨d0, d1, d2⟩ := bx.nd
  have hE := Lib.hid (Ext.alloc w (.cells #[.int .u64 x.h, .int .u64 x.t, .bool x.s] 48))
  clear bx
  unfold Nd.val
  go_enter Try.func21, Try.ntmps21
  go_wp2
  go_ret
  exact ⟨rfl, hE.out⟩
theorem sus_nil (w : World) : Calls Try.prog 12 #[.pointer none] w fun e w' => e = .returned (.slice none 0 0) ∧ w' = w := by
  go_enter Try.func12, Try.ntmps12
  go_wp2
  go_ret
  exact ⟨rfl, rfl⟩
theorem sus_at {w : World} {b mb : Nat} {σ : DSt} (hM : DetAt w b mb σ) (hO : σ.Ok) :
    Calls Try.prog 12 #[.pointer (some ⟨b, 0, none⟩)] w (AllR w (susL σ)) := by
  have HM := Lib.hid hM
  have h16 := Lib.hid hO.n16
  clear hM hO
  go_enter Try.func12, Try.ntmps12
  go_wp2_with (go_at_call 17; refine (all_at HM.out h16.out 21 #[] (fun args w => callFunc_at _ (by kernel_rfl) args w) (fun i => (σ.nd i).s) (fun i _ W _ => susF_at i (σ.nd i) W)).mono ?_; rintro e w' ⟨v, rfl, h1, h2, h3⟩; have H1 := Lib.hid h1; have H2 := Lib.hid h2; have H3 := Lib.hid h3; clear h1 h2 h3)
  go_ret
  exact ⟨_, rfl, H1.out, H2.out, H3.out⟩

set_option maxRecDepth 100000 in
set_option maxHeartbeats 1600000 in
theorem lateF_at {w : World} {b mb B2 B3 : Nat} {σ : DSt} {t : Int} (i : Nat) (x : Nd) (hD : DetAt w b mb σ) (c2 : w.cell? ⟨B2, 0, none⟩ = some (.pointer (some ⟨b, 0, none⟩))) (c3 : w.cell? ⟨B3, 0, none⟩ = some (.int .u64 t))
    (h0 : 0 ≤ x.h) (h1 : x.h ≤ t) (h2 : t ≤ maxT) :
    Calls Try.prog 18 #[.int .i64 i, x.val, .pointer (some ⟨B2, 0, none⟩), .pointer (some ⟨B3, 0, none⟩)] w (fun e w' => e = .returned (.bool (decide (i ≠ σ.self) && (!x.s && decide (x.t < t - x.h)))) ∧ Ext w w') := by
  have hE0 := Ext.alloc w (.cells #[.int .u64 x.h, .int .u64 x.t, .bool x.s] 48)
  have bx := box_Nd w x
  obtain ⟨d0, d1, d2⟩ := bx.nd
  have dl := bx.lt
  obtain ⟨xc, xf, xl⟩ := hE0.cells
  obtain ⟨e0, e1, e2, e3, e4, e5, e6, fb, lb, lm⟩ := hD.cells
  have s0 := (xc _ _ lb).trans e0
  have s2 := (xc _ _ (cell_lt c2)).trans c2
  have s3 := (xc _ _ (cell_lt c3)).trans c3
  have l2 := xl _ (cell_lt c2)
  have l3 := xl _ (cell_lt c3)
  have lb' := xl _ lb
  have hE := Lib.hid hE0
  unfold maxT at h2
  have hws : IntKind.u64.wrap (t - x.h) = t - x.h := IntWalk.u64_in _ ⟨by omega, by omega⟩
  obtain ⟨r1, hr1⟩ : ∃ r1, ((i : Int) != (σ.self : Int)) = r1 := ⟨_, rfl⟩
  have hd : decide (i ≠ σ.self) = r1 := by
    rw [← hr1]
    by_cases h : i = σ.self
    · simp [h]
    · have : ¬ (i : Int) = (σ.self : Int) := by omega
      simp [h, this]
  rw [hd]
  obtain ⟨xh, xt, xs⟩ := x
  obtain ⟨r3, hr3⟩ : ∃ r3, decide (xt < t - xh) = r3 := ⟨_, rfl⟩
  simp only [hr3]
  clear bx hE0 xc xf xl e0 e1 e2 e3 e4 e5 e6 fb lb lm c2 c3 h0 h1 h2 hD hd
  unfold Nd.val
  go_enter Try.func18, Try.ntmps18
  generalize hW : w.alloc (.cells #[.int .u64 xh, .int .u64 xt, .bool xs] 48) = W at *
  cases r1 with
  | false =>
    go_wp2
    go_ret
    exact ⟨rfl, hE.out⟩
  | true =>
    cases xs with
    | true =>
      go_wp2
      go_ret
      exact ⟨rfl, hE.out⟩
    | false =>
      go_wp2
      go_ret
      exact ⟨rfl, hE.out⟩
end Go.Proofs.Ytfdbfdbeegalpaa
