/-
  rostrumref12.Pool: Add.
-/
import Derived.Test.YtkkcdoajdhbofaaRefQ
import Derived.Test.YtkkcdoajdhbofaaAdd
namespace Go.Proofs.Ytkkcdoajdhbofaa
open Go.RowKit
attribute [local go_sem] Oper.semAt_some

/-- The two pools tell the same. -/
structure Tells (σ : PSt) (P : List Ms) (D : List (Int × Int)) : Prop where
  p : P = pend σ
  d : ∀ j, decide (j ∈ D) = isB σ j
def RAddR (w : World) (r : Nat) (pv dv : Value) (D : List (Int × Int)) (σ : PSt) (m : Ms) (e : Ending) (w' : World) : Prop :=
  e = .returned (.int .i64 (addE σ m)) ∧ ∃ pv', RefV w' r pv' dv (pend (addS σ m)) D ∧ Mods (· = r) w w' ∧ ∀ x, pv'.ownBlock = some x → pv.ownBlock = some x ∨ w.heap.size ≤ x
theorem RAddR.same {w w' : World} {r : Nat} {pv dv : Value} {P : List Ms} {D : List (Int × Int)} {σ : PSt} {m : Ms} (h : RefV w' r pv dv P D) (hP : P = pend σ) (he : Ext w w') (hs : addS σ m = σ) {e : Int} (hE : addE σ m = e) : RAddR w r pv dv D σ m (.returned (.int .i64 e)) w' :=
  ⟨by rw [hE], pv, by rw [hs, ← hP]; exact h, he.mods _, fun _ h => .inl h⟩
set_option maxRecDepth 100000 in
set_option maxHeartbeats 6400000 in
theorem add_ref {w : World} {r : Nat} {pv dv : Value} {P : List Ms} {D : List (Int × Int)} {σ : PSt} (h : RefV w r pv dv P D) (hO : σ.Ok) (hT : Tells σ P D) (hDl : D.length ≤ 1000000) (m : Ms) :
    Calls Try.prog 14 #[.pointer (some ⟨r, 0, none⟩), m.val] w (RAddR w r pv dv D σ m) := by
  have hE0 := Ext.alloc w (.cells #[.int .i64 m.f, .int .u32 m.c, .string m.d] 41)
  have hbx := box_Ms w m
  obtain ⟨d0, d1, d2⟩ := hbx.ms
  have dl := hbx.lt
  obtain ⟨A, cap, rfl, hcap, -⟩ := h.p.val
  have H := Lib.hid (h.ext hE0)
  have HE := Lib.hid hE0
  have HB := Lib.hid hbx
  have HP := Lib.hid hT.p
  obtain ⟨R, hr⟩ : ∃ R, rightB m = R := ⟨_, rfl⟩
  have Hr := Lib.hid hr
  obtain ⟨q, hq⟩ : ∃ q, isB σ (m.f, m.c) = q := ⟨_, rfl⟩
  have Hq := Lib.hid hq
  have Hqd : Hid (decide ((m.f, m.c) ∈ D) = q) := Lib.hid (by rw [hT.d, hq])
  obtain ⟨z, hz⟩ : ∃ z, atI P (m.f, m.c) = z := ⟨_, rfl⟩
  have Hz := Lib.hid hz
  have hzo : (kfind (m.f, m.c) σ.wt).isSome = decide (0 ≤ z) := by rw [← hz, hT.p, atI_has hO]
  have hhas : hasP σ (keyM m) = (decide (0 ≤ z) || q) := by unfold hasP keyM; rw [hzo, hq]
  have HHas := Lib.hid hhas
  have hPn : P.length = σ.wt.length := by rw [hT.p, pend_len]
  have hlen := hO.len
  have HPn := Lib.hid hPn
  have hP1000 : P.length ≤ 1000 := by omega
  have Hpa : Hid (R = true → hasP σ (keyM m) = false → ¬ 1000 ≤ P.length → pend (addS σ m) = insM m P ∧ addE σ m = 0) := Lib.hid (fun h1 h2 h3 => ⟨by rw [pend_add hO (by rw [hr, h1]) h2 (by omega), hT.p], by unfold addE; rw [hr, h1, h2, ← hPn]; simp; omega⟩)
  clear h hE0 hbx hr hq hz hzo hhas hPn hlen hT hO
  unfold Ms.val
  go_enter Try.func14, Try.ntmps14
  generalize hW : w.alloc (.cells #[.int .i64 m.f, .int .u32 m.c, .string m.d] 41) = W at *
  go_upto_region 1 with fail
  refine wp_region_line [(0,1),(1,1),(2,0)] (by kernel_rfl) (by kernel_rfl) (Ext W) (fun _ _ h k => h.trans k) (Ext.refl _) ?_
  refine Fx.look rfl rfl (op_load_Ms' (m := m) dl d0 d1 d2 rfl) (by simp only [List.set_cons_zero, List.set_cons_succ]; rfl) ?_
  refine Fx.call1 (v := .bool R) (args := #[m.val]) rfl rfl (fun _ => by first | (go_simp; done) | (go_simp; rfl)) (fun w'' hC => (right_ref m w'').mono (fun e w3 hh => by rw [Hr.out] at hh; exact hh)) (by simp only [List.set_cons_zero, List.set_cons_succ]; rfl) ?_
  first
    | refine Fx.skip rfl rfl (by simp only [List.set_cons_zero, List.set_cons_succ]; rfl) ?_
    | (with_reducible refine Fx.lab0 ?_
       first
         | refine Fx.moveT rfl rfl rfl (by simp only [List.set_cons_zero, List.set_cons_succ]; rfl) ?_
         | refine Fx.assignT rfl rfl rfl (by simp only [List.set_cons_zero, List.set_cons_succ]; rfl) ?_
         | refine Fx.pure_ rfl rfl (fun _ => by go_simp; first | done | rfl) (by simp only [List.set_cons_zero, List.set_cons_succ]; rfl) ?_)
    | (with_reducible refine Fx.lab1 ?_
       refine Fx.look rfl rfl (fun w' hC => by obtain ⟨hc, hf, hl⟩ := Ext.cells hC; go_simp; rfl) (by simp only [List.set_cons_zero, List.set_cons_succ]; rfl) ?_)
  refine Fx.done (fun w1 hC => ?_)
  obtain ⟨xc, xf, xl⟩ := hC.cells
  replace d0 := (xc _ _ dl).trans d0
  replace d1 := (xc _ _ dl).trans d1
  replace d2 := (xc _ _ dl).trans d2
  have dl0 := dl
  replace dl := xl _ dl
  have H1 := Lib.hid (H.out.ext hC)
  have HE1 := Lib.hid (HE.out.trans hC)
  have HB1 := Lib.hid (HB.out.ext hC)
  clear xc xf xl hC H HE HB
  cases R with
  | false =>
    go_wp2
    go_ret
    exact RAddR.same H1.out HP.out HE1.out (by unfold addS; rw [Hr.out]; rfl) (by unfold addE; rw [Hr.out]; rfl)
  | true =>
    cases q with
    | true =>
      go_upto_region 4 with fail
      refine wp_region_line [(0,0),(1,0),(2,1),(3,1),(4,0),(5,0),(6,0),(7,0),(8,0),(9,0),(10,0)] (by kernel_rfl) (by kernel_rfl) (Ext w1) (fun _ _ h k => h.trans k) (Ext.refl _) ?_
      iterate 2
        first
          | refine Fx.skip rfl rfl (by simp only [List.set_cons_zero, List.set_cons_succ]; rfl) ?_
          | (with_reducible refine Fx.lab0 ?_
             first
               | refine Fx.moveT rfl rfl rfl (by simp only [List.set_cons_zero, List.set_cons_succ]; rfl) ?_
               | refine Fx.assignT rfl rfl rfl (by simp only [List.set_cons_zero, List.set_cons_succ]; rfl) ?_
               | refine Fx.pure_ rfl rfl (fun _ => by go_simp; first | done | rfl) (by simp only [List.set_cons_zero, List.set_cons_succ]; rfl) ?_)
          | (with_reducible refine Fx.lab1 ?_
             refine Fx.look rfl rfl (fun w' hC => by obtain ⟨hc, hf, hl⟩ := Ext.cells hC; go_simp; rfl) (by simp only [List.set_cons_zero, List.set_cons_succ]; rfl) ?_)
      refine Fx.look rfl rfl (op_load_Id' dl d0 d1 rfl) (by simp only [List.set_cons_zero, List.set_cons_succ]; rfl) ?_
      refine Fx.call1 (v := .bool true) (args := #[.pointer (some ⟨r, 0, none⟩), .agg #[.int .i64 m.f, .int .u32 m.c]]) rfl rfl (fun _ => by first | (go_simp; done) | (go_simp; rfl)) (fun w' hC => (is_ref (H1.out.ext hC) hDl m.f m.c).mono (fun e w'' hh => by rw [Hqd.out] at hh; exact hh)) (by simp only [List.set_cons_zero, List.set_cons_succ]; rfl) ?_
      iterate 7
        first
          | refine Fx.skip rfl rfl (by simp only [List.set_cons_zero, List.set_cons_succ]; rfl) ?_
          | (with_reducible refine Fx.lab0 ?_
             first
               | refine Fx.moveT rfl rfl rfl (by simp only [List.set_cons_zero, List.set_cons_succ]; rfl) ?_
               | refine Fx.assignT rfl rfl rfl (by simp only [List.set_cons_zero, List.set_cons_succ]; rfl) ?_
               | refine Fx.pure_ rfl rfl (fun _ => by go_simp; first | done | rfl) (by simp only [List.set_cons_zero, List.set_cons_succ]; rfl) ?_)
          | (with_reducible refine Fx.lab1 ?_
             refine Fx.look rfl rfl (fun w' hC => by obtain ⟨hc, hf, hl⟩ := Ext.cells hC; go_simp; rfl) (by simp only [List.set_cons_zero, List.set_cons_succ]; rfl) ?_)
      refine Fx.done (fun w2 hC => ?_)
      have H2 := Lib.hid (H1.out.ext hC)
      have HE2 := Lib.hid (HE1.out.trans hC)
      clear hC d0 d1 d2
      go_wp2
      go_ret
      exact RAddR.same H2.out HP.out HE2.out (by unfold addS; rw [Hr.out, HHas.out]; simp) (by unfold addE; rw [Hr.out, HHas.out]; simp)
    | false =>
      have hge : decide (0 ≤ z) = true ∨ decide (0 ≤ z) = false := by cases decide (0 ≤ z) <;> simp
      obtain ⟨y, hy⟩ : ∃ y, decide (0 ≤ z) = y := ⟨_, rfl⟩
      rw [hy] at HHas
      go_upto_region 4 with fail
      refine wp_region_line [(0,0),(1,0),(2,1),(3,1),(4,0),(5,0),(6,0),(7,1),(8,1),(9,0),(10,0)] (by kernel_rfl) (by kernel_rfl) (Ext w1) (fun _ _ h k => h.trans k) (Ext.refl _) ?_
      iterate 2
        first
          | refine Fx.skip rfl rfl (by simp only [List.set_cons_zero, List.set_cons_succ]; rfl) ?_
          | (with_reducible refine Fx.lab0 ?_
             first
               | refine Fx.moveT rfl rfl rfl (by simp only [List.set_cons_zero, List.set_cons_succ]; rfl) ?_
               | refine Fx.assignT rfl rfl rfl (by simp only [List.set_cons_zero, List.set_cons_succ]; rfl) ?_
               | refine Fx.pure_ rfl rfl (fun _ => by go_simp; first | done | rfl) (by simp only [List.set_cons_zero, List.set_cons_succ]; rfl) ?_)
          | (with_reducible refine Fx.lab1 ?_
             refine Fx.look rfl rfl (fun w' hC => by obtain ⟨hc, hf, hl⟩ := Ext.cells hC; go_simp; rfl) (by simp only [List.set_cons_zero, List.set_cons_succ]; rfl) ?_)
      refine Fx.look rfl rfl (op_load_Id' dl d0 d1 rfl) (by simp only [List.set_cons_zero, List.set_cons_succ]; rfl) ?_
      refine Fx.call1 (v := .bool false) (args := #[.pointer (some ⟨r, 0, none⟩), .agg #[.int .i64 m.f, .int .u32 m.c]]) rfl rfl (fun _ => by first | (go_simp; done) | (go_simp; rfl)) (fun w' hC => (is_ref (H1.out.ext hC) hDl m.f m.c).mono (fun e w'' hh => by rw [Hqd.out] at hh; exact hh)) (by simp only [List.set_cons_zero, List.set_cons_succ]; rfl) ?_
      iterate 3
        first
          | refine Fx.skip rfl rfl (by simp only [List.set_cons_zero, List.set_cons_succ]; rfl) ?_
          | (with_reducible refine Fx.lab0 ?_
             first
               | refine Fx.moveT rfl rfl rfl (by simp only [List.set_cons_zero, List.set_cons_succ]; rfl) ?_
               | refine Fx.assignT rfl rfl rfl (by simp only [List.set_cons_zero, List.set_cons_succ]; rfl) ?_
               | refine Fx.pure_ rfl rfl (fun _ => by go_simp; first | done | rfl) (by simp only [List.set_cons_zero, List.set_cons_succ]; rfl) ?_)
          | (with_reducible refine Fx.lab1 ?_
             refine Fx.look rfl rfl (fun w' hC => by obtain ⟨hc, hf, hl⟩ := Ext.cells hC; go_simp; rfl) (by simp only [List.set_cons_zero, List.set_cons_succ]; rfl) ?_)
      refine Fx.look rfl rfl (op_load_Id' dl d0 d1 rfl) (by simp only [List.set_cons_zero, List.set_cons_succ]; rfl) ?_
      refine Fx.call1 (v := .int .i64 z) (args := #[.pointer (some ⟨r, 0, none⟩), .agg #[.int .i64 m.f, .int .u32 m.c]]) rfl rfl (fun _ => by first | (go_simp; done) | (go_simp; rfl)) (fun w' hC => (at_ref (H1.out.ext hC) (by omega) m.f m.c).mono (fun e w'' hh => by rw [Hz.out] at hh; exact hh)) (by simp only [List.set_cons_zero, List.set_cons_succ]; rfl) ?_
      refine Fx.pure_ (v := .bool y) rfl rfl (fun _ => by first | (go_simp; done) | (go_simp; rfl)) (by simp only [List.set_cons_zero, List.set_cons_succ]; rfl) ?_
      first
        | refine Fx.skip rfl rfl (by simp only [List.set_cons_zero, List.set_cons_succ]; rfl) ?_
        | (with_reducible refine Fx.lab0 ?_
           first
             | refine Fx.moveT rfl rfl rfl (by simp only [List.set_cons_zero, List.set_cons_succ]; rfl) ?_
             | refine Fx.assignT rfl rfl rfl (by simp only [List.set_cons_zero, List.set_cons_succ]; rfl) ?_
             | refine Fx.pure_ rfl rfl (fun _ => by go_simp; first | done | rfl) (by simp only [List.set_cons_zero, List.set_cons_succ]; rfl) ?_)
        | (with_reducible refine Fx.lab1 ?_
           refine Fx.look rfl rfl (fun w' hC => by obtain ⟨hc, hf, hl⟩ := Ext.cells hC; go_simp; rfl) (by simp only [List.set_cons_zero, List.set_cons_succ]; rfl) ?_)
      refine Fx.done (fun w2 hC => ?_)
      have H2 := Lib.hid (H1.out.ext hC)
      have HE2 := Lib.hid (HE1.out.trans hC)
      have HB2 := Lib.hid (HB1.out.ext hC)
      clear hC d0 d1 d2 hge hy H1 HE1 HB1 dl dl0
      cases y with
      | true =>
        go_wp2
        go_ret
        exact RAddR.same H2.out HP.out HE2.out (by unfold addS; rw [Hr.out, HHas.out]; simp) (by unfold addE; rw [Hr.out, HHas.out]; simp)
      | false =>
        obtain ⟨x0, x1, lb⟩ := H2.out.cells
        by_cases h1000 : 1000 ≤ P.length
        · have hb3 : decide ((1000 : Int) ≤ (P.length : Int)) = true := by simp; omega
          have H1000 : Hid (1000 ≤ σ.wt.length) := Lib.hid (by rw [← HPn.out]; exact h1000)
          go_wp2
          go_ret
          exact RAddR.same H2.out HP.out HE2.out (by unfold addS; rw [Hr.out, HHas.out]; simp [H1000.out]) (by unfold addE; rw [Hr.out, HHas.out]; simp [H1000.out])
        · have hb3 : decide ((1000 : Int) ≤ (P.length : Int)) = false := by simp; omega
          have Hpa2 := Lib.hid (Hpa.out rfl (by rw [HHas.out]; rfl) h1000)
          go_upto_region 8 with fail
          clear x0 x1 hb3
          go_wp2
          go_loopw [6] (fun i wr => ∃ k : Nat, k ≤ P.length ∧ i = .int .i64 k ∧ Hid (∀ j, (hj : j < P.length) → j < k → ltK P[j] m = true) ∧ Hid (Ext w2 wr)) (fun i _ => P.length - (intOf i).toNat)
          case atStart => exact ⟨0, Nat.zero_le _, rfl, Lib.hid (fun j _ hj => by omega), Lib.hid (Ext.refl _)⟩
          case round =>
            obtain ⟨k, hk, rfl, hal, hE⟩ := hrel
            obtain ⟨x0, x1, lb⟩ := (H2.out.ext hE.out).cells
            obtain ⟨d0, d1, d2⟩ := (HB2.out.ext hE.out).ms
            have dl := (HB2.out.ext hE.out).lt
            by_cases hlt : k < P.length
            · obtain ⟨pb, poff, he, hpbl, p0, p1, p2⟩ := Sl.at3 (H2.out.ext hE.out).ps hlt
              subst he
              have hwk : IntKind.i64.wrap ((k : Int) + 1) = (k : Int) + 1 := IntWalk.i64_in _ ⟨by omega, by omega⟩
              obtain ⟨y, hy⟩ : ∃ y, P[k] = y := ⟨_, rfl⟩
              rw [hy] at p0 p1 p2
              obtain ⟨a, ha⟩ : ∃ a, ltK y m = a := ⟨_, rfl⟩
              have Hy := Lib.hid hy
              have Ha := Lib.hid ha
              clear hy ha p2
              go_upto_region 9 with fail
              refine wp_region_plan [(0,0),(1,0),(2,0),(3,0),(4,1),(5,0),(6,0),(7,0),(8,0),(9,0),(10,0),(11,1),(12,0),(13,0),(14,0),(15,1),(16,0),(17,1),(18,1),(19,0)] (by kernel_rfl) (by kernel_rfl) (by kernel_rfl) (Ext wr) (fun _ _ h k => h.trans k) (Ext.drawn _ _) ?_
              iterate 15
                first
                  | refine Fx.skip rfl rfl (by simp only [List.set_cons_zero, List.set_cons_succ]; rfl) ?_
                  | (with_reducible refine Fx.lab0 ?_
                     first
                       | refine Fx.moveT rfl rfl rfl (by simp only [List.set_cons_zero, List.set_cons_succ]; rfl) ?_
                       | refine Fx.assignT rfl rfl rfl (by simp only [List.set_cons_zero, List.set_cons_succ]; rfl) ?_
                       | refine Fx.pure_ rfl rfl (fun _ => by go_simp; first | done | rfl) (by simp only [List.set_cons_zero, List.set_cons_succ]; rfl) ?_)
                  | (with_reducible refine Fx.lab1 ?_
                     refine Fx.look rfl rfl (fun w' hC => by obtain ⟨hc, hf, hl⟩ := Ext.cells hC; go_simp; rfl) (by simp only [List.set_cons_zero, List.set_cons_succ]; rfl) ?_)
              refine Fx.look rfl rfl (op_load_Id' (f := y.f) (c := y.c) hpbl p0 p1 rfl) (by simp only [List.set_cons_zero, List.set_cons_succ]; rfl) ?_
              first
                | refine Fx.skip rfl rfl (by simp only [List.set_cons_zero, List.set_cons_succ]; rfl) ?_
                | (with_reducible refine Fx.lab0 ?_
                   first
                     | refine Fx.moveT rfl rfl rfl (by simp only [List.set_cons_zero, List.set_cons_succ]; rfl) ?_
                     | refine Fx.assignT rfl rfl rfl (by simp only [List.set_cons_zero, List.set_cons_succ]; rfl) ?_
                     | refine Fx.pure_ rfl rfl (fun _ => by go_simp; first | done | rfl) (by simp only [List.set_cons_zero, List.set_cons_succ]; rfl) ?_)
                | (with_reducible refine Fx.lab1 ?_
                   refine Fx.look rfl rfl (fun w' hC => by obtain ⟨hc, hf, hl⟩ := Ext.cells hC; go_simp; rfl) (by simp only [List.set_cons_zero, List.set_cons_succ]; rfl) ?_)
              refine Fx.look rfl rfl (op_load_Id' (f := m.f) (c := m.c) dl d0 d1 rfl) (by simp only [List.set_cons_zero, List.set_cons_succ]; rfl) ?_
              refine Fx.call1 (v := .bool a) (args := #[.agg #[.int .i64 y.f, .int .u32 y.c], .agg #[.int .i64 m.f, .int .u32 m.c]]) rfl rfl (fun _ => by first | (go_simp; done) | (go_simp; rfl)) (fun w' hC => (ahead_ref w' (y.f, y.c) (m.f, m.c)).mono (fun e w'' hh => by rw [show ltI (y.f, y.c) (m.f, m.c) = a from Ha.out] at hh; exact hh)) (by simp only [List.set_cons_zero, List.set_cons_succ]; rfl) ?_
              first
                | refine Fx.skip rfl rfl (by simp only [List.set_cons_zero, List.set_cons_succ]; rfl) ?_
                | (with_reducible refine Fx.lab0 ?_
                   first
                     | refine Fx.moveT rfl rfl rfl (by simp only [List.set_cons_zero, List.set_cons_succ]; rfl) ?_
                     | refine Fx.assignT rfl rfl rfl (by simp only [List.set_cons_zero, List.set_cons_succ]; rfl) ?_
                     | refine Fx.pure_ rfl rfl (fun _ => by go_simp; first | done | rfl) (by simp only [List.set_cons_zero, List.set_cons_succ]; rfl) ?_)
                | (with_reducible refine Fx.lab1 ?_
                   refine Fx.look rfl rfl (fun w' hC => by obtain ⟨hc, hf, hl⟩ := Ext.cells hC; go_simp; rfl) (by simp only [List.set_cons_zero, List.set_cons_succ]; rfl) ?_)
              refine Fx.done (fun w3 hC => ?_)
              have HC := Lib.hid (hE.out.trans hC)
              clear hC d0 d1 d2 p0 p1 x0 x1 lb dl
              cases a with
              | true =>
                have hal' : ∀ j, (hj : j < P.length) → j < k + 1 → ltK P[j] m = true := fun j hj hjk => by
                  by_cases h : j < k
                  · exact hal.out j hj h
                  · obtain rfl : j = k := by omega
                    rw [Hy.out]; exact Ha.out
                have Hal := Lib.hid hal'
                clear hal'
                go_wp2
                go_roundw
                case rel => exact ⟨k + 1, by omega, by go_num, Hal, HC⟩
                case measure => simp [intOf]; omega
              | false =>
                have H3 := Lib.hid (H2.out.ext HC.out)
                have HE3 := Lib.hid (HE2.out.trans HC.out)
                have HB3 := Lib.hid (HB2.out.ext HC.out)
                have HNX : Hid (∀ (h : k < P.length), ltK P[k] m = false) := Lib.hid (fun h => by rw [Hy.out]; exact Ha.out)
                clear H2 HE2 HB2 HC hE
                have hins := insM_at m P k hk (fun j hj hjk => hal.out j hj hjk) HNX.out
                have HX := Lib.hid (Hpa2.out.1.trans hins)
                have hS1 := H3.out.ps.take k hk
                have hS2 := H3.out.ps.drop k hk
                have HS1 := Lib.hid hS1
                have HS2 := Lib.hid hS2
                obtain ⟨x0, x1, lb⟩ := H3.out.cells
                have hkc : k ≤ cap := by omega
                have hb := HB3.out.ms
                obtain ⟨d0, d1, d2⟩ := hb
                have dl := HB3.out.lt
                have s3 := HE3.out.size
                clear hins hS1 hS2
                go_upto_region 12 with fail
                refine wp_region_line [(0,0),(1,0),(2,0),(3,0),(4,1),(5,0),(6,0),(7,3),(8,0)] (by kernel_rfl) (by kernel_rfl) (Ext w3) (fun _ _ h k => h.trans k) (Ext.refl _) ?_
                iterate 6
                  first
                    | refine Fx.skip rfl rfl (by simp only [List.set_cons_zero, List.set_cons_succ]; rfl) ?_
                    | (with_reducible refine Fx.lab0 ?_
                       first
                         | refine Fx.moveT rfl rfl rfl (by simp only [List.set_cons_zero, List.set_cons_succ]; rfl) ?_
                         | refine Fx.assignT rfl rfl rfl (by simp only [List.set_cons_zero, List.set_cons_succ]; rfl) ?_
                         | refine Fx.pure_ rfl rfl (fun _ => by go_simp; first | done | rfl) (by simp only [List.set_cons_zero, List.set_cons_succ]; rfl) ?_)
                    | (with_reducible refine Fx.lab1 ?_
                       refine Fx.look rfl rfl (fun w' hC => by obtain ⟨hc, hf, hl⟩ := Ext.cells hC; go_simp; rfl) (by simp only [List.set_cons_zero, List.set_cons_succ]; rfl) ?_)
                refine Fx.pure_ rfl rfl (fun w => op_takeS (some ⟨pb, poff, none⟩) P.length cap k k rfl rfl rfl hkc w) (by simp only [List.set_cons_zero, List.set_cons_succ]; rfl) ?_
                refine Fx.eff (fun v' w' => OwnMs w' v' ([] ++ P.take k) ∧ Mods (fun c => Value.ownBlock (.slice none 0 0) = some c) w3 w' ∧ (∀ c, v'.ownBlock = some c → Value.ownBlock (.slice none 0 0) = some c ∨ w3.heap.size ≤ c)) (fun v _ _ h k => ⟨h.1.ext k, h.2.1.then_ k, h.2.2⟩) rfl rfl
                  (fun w' hC => stepAt_append hC Own.nil (HS1.out.ext hC) (by simp; omega) rfl rfl) (fun v1 => ?_)
                simp only [List.set_cons_zero, List.set_cons_succ]
                first
                  | refine Fx.skip rfl rfl (by simp only [List.set_cons_zero, List.set_cons_succ]; rfl) ?_
                  | (with_reducible refine Fx.lab0 ?_
                     first
                       | refine Fx.moveT rfl rfl rfl (by simp only [List.set_cons_zero, List.set_cons_succ]; rfl) ?_
                       | refine Fx.assignT rfl rfl rfl (by simp only [List.set_cons_zero, List.set_cons_succ]; rfl) ?_
                       | refine Fx.pure_ rfl rfl (fun _ => by go_simp; first | done | rfl) (by simp only [List.set_cons_zero, List.set_cons_succ]; rfl) ?_)
                  | (with_reducible refine Fx.lab1 ?_
                     refine Fx.look rfl rfl (fun w' hC => by obtain ⟨hc, hf, hl⟩ := Ext.cells hC; go_simp; rfl) (by simp only [List.set_cons_zero, List.set_cons_succ]; rfl) ?_)
                refine Fx.done (fun w4 hC => ?_)
                obtain ⟨hA1, hA2, hA3⟩ := hC
                have hE4 : Ext w3 w4 := hA2.ext_of (fun x hx h => by simp [Value.ownBlock] at h)
                have HA1 := Lib.hid hA1
                have HA3 : Hid (∀ c, v1.ownBlock = some c → w3.heap.size ≤ c) := Lib.hid (fun c hc => (hA3 c hc).elim (fun h => by simp [Value.ownBlock] at h) id)
                obtain ⟨xc, xf, xl⟩ := hE4.cells
                replace d0 := (xc _ _ dl).trans d0
                replace d1 := (xc _ _ dl).trans d1
                replace d2 := (xc _ _ dl).trans d2
                replace dl := xl _ dl
                have HE4 := Lib.hid hE4
                have s4 := hE4.size
                have H4 := Lib.hid (H3.out.ext hE4)
                have HS24 := Lib.hid (HS2.out.ext hE4)
                clear xc xf xl hA1 hA2 hA3 hE4 x0 x1 lb
                go_upto_region 13 with fail
                refine wp_region_line [(0,0),(1,1),(2,2),(3,3),(4,0)] (by kernel_rfl) (by kernel_rfl) (Ext w4) (fun _ _ h k => h.trans k) (Ext.refl _) ?_
                first
                  | refine Fx.skip rfl rfl (by simp only [List.set_cons_zero, List.set_cons_succ]; rfl) ?_
                  | (with_reducible refine Fx.lab0 ?_
                     first
                       | refine Fx.moveT rfl rfl rfl (by simp only [List.set_cons_zero, List.set_cons_succ]; rfl) ?_
                       | refine Fx.assignT rfl rfl rfl (by simp only [List.set_cons_zero, List.set_cons_succ]; rfl) ?_
                       | refine Fx.pure_ rfl rfl (fun _ => by go_simp; first | done | rfl) (by simp only [List.set_cons_zero, List.set_cons_succ]; rfl) ?_)
                  | (with_reducible refine Fx.lab1 ?_
                     refine Fx.look rfl rfl (fun w' hC => by obtain ⟨hc, hf, hl⟩ := Ext.cells hC; go_simp; rfl) (by simp only [List.set_cons_zero, List.set_cons_succ]; rfl) ?_)
                refine Fx.look rfl rfl (op_load_Ms' (m := m) dl d0 d1 d2 rfl) (by simp only [List.set_cons_zero, List.set_cons_succ]; rfl) ?_
                refine Fx.mkSl 1 1 (fun B w' => MsL w' (.slice (some ⟨B, 0, none⟩) 1 1) [m]) (fun B _ _ h k => h.ext k) rfl rfl (fun w' hC => stepAt_lit1 hC m rfl) (fun B2 => ?_)
                simp only [List.set_cons_zero, List.set_cons_succ]
                refine Fx.eff (fun v' w' => OwnMs w' v' (([] ++ P.take k) ++ [m]) ∧ Mods (fun c => v1.ownBlock = some c) w4 w' ∧ (∀ c, v'.ownBlock = some c → v1.ownBlock = some c ∨ w4.heap.size ≤ c)) (fun v _ _ h k => ⟨h.1.ext k, h.2.1.then_ k, h.2.2⟩) rfl rfl
                  (fun w' hC => stepAt_append hC.1 (HA1.out.ext hC.1) hC.2 (by simp; omega) rfl rfl) (fun v2 => ?_)
                simp only [List.set_cons_zero, List.set_cons_succ]
                first
                  | refine Fx.skip rfl rfl (by simp only [List.set_cons_zero, List.set_cons_succ]; rfl) ?_
                  | (with_reducible refine Fx.lab0 ?_
                     first
                       | refine Fx.moveT rfl rfl rfl (by simp only [List.set_cons_zero, List.set_cons_succ]; rfl) ?_
                       | refine Fx.assignT rfl rfl rfl (by simp only [List.set_cons_zero, List.set_cons_succ]; rfl) ?_
                       | refine Fx.pure_ rfl rfl (fun _ => by go_simp; first | done | rfl) (by simp only [List.set_cons_zero, List.set_cons_succ]; rfl) ?_)
                  | (with_reducible refine Fx.lab1 ?_
                     refine Fx.look rfl rfl (fun w' hC => by obtain ⟨hc, hf, hl⟩ := Ext.cells hC; go_simp; rfl) (by simp only [List.set_cons_zero, List.set_cons_succ]; rfl) ?_)
                refine Fx.done (fun w5 hC => ?_)
                obtain ⟨hA1', hA2', hA3'⟩ := hC
                have hE5 : Ext w3 w5 := ((HE4.out.mods _).trans hA2' (fun _ _ h => h)).ext_of (fun x hx h => by have := HA3.out x h; omega)
                have HA5 := Lib.hid hA1'
                have HF5 : Hid (∀ c, v2.ownBlock = some c → w3.heap.size ≤ c) := Lib.hid (fun c hc => (hA3' c hc).elim (HA3.out c) (fun h => by omega))
                have HE5 := Lib.hid hE5
                have H5 := Lib.hid (H3.out.ext hE5)
                have HS25 := Lib.hid (HS2.out.ext hE5)
                have s5 := hE5.size
                obtain ⟨x0, x1, lb⟩ := H5.out.cells
                have f0 := H5.out.o.free 0
                clear hA1' hA2' hA3' hE5 d0 d1 d2 dl
                go_upto_region 14 with fail
                refine wp_region_line [(0,0),(1,0),(2,0),(3,0),(4,0),(5,1),(6,0),(7,0),(8,3),(9,0),(10,0),(11,3)] (by kernel_rfl) (by kernel_rfl) (Ext w5) (fun _ _ h k => h.trans k) (Ext.refl _) ?_
                iterate 7
                  first
                    | refine Fx.skip rfl rfl (by simp only [List.set_cons_zero, List.set_cons_succ]; rfl) ?_
                    | (with_reducible refine Fx.lab0 ?_
                       first
                         | refine Fx.moveT rfl rfl rfl (by simp only [List.set_cons_zero, List.set_cons_succ]; rfl) ?_
                         | refine Fx.assignT rfl rfl rfl (by simp only [List.set_cons_zero, List.set_cons_succ]; rfl) ?_
                         | refine Fx.pure_ rfl rfl (fun _ => by go_simp; first | done | rfl) (by simp only [List.set_cons_zero, List.set_cons_succ]; rfl) ?_)
                    | (with_reducible refine Fx.lab1 ?_
                       refine Fx.look rfl rfl (fun w' hC => by obtain ⟨hc, hf, hl⟩ := Ext.cells hC; go_simp; rfl) (by simp only [List.set_cons_zero, List.set_cons_succ]; rfl) ?_)
                refine Fx.pure_ rfl rfl (fun w => op_drop (some ⟨pb, poff, none⟩) P.length cap k k rfl rfl rfl hk w) (by simp only [List.set_cons_zero, List.set_cons_succ]; rfl) ?_
                refine Fx.eff (fun v' w' => OwnMs w' v' ((([] ++ P.take k) ++ [m]) ++ P.drop k) ∧ Mods (fun c => v2.ownBlock = some c) w5 w' ∧ (∀ c, v'.ownBlock = some c → v2.ownBlock = some c ∨ w5.heap.size ≤ c)) (fun v _ _ h k => ⟨h.1.ext k, h.2.1.then_ k, h.2.2⟩) rfl rfl
                  (fun w' hC => stepAt_append hC (HA5.out.ext hC) (HS25.out.ext hC) (by simp; omega) rfl rfl) (fun v3 => ?_)
                simp only [List.set_cons_zero, List.set_cons_succ]
                iterate 2
                  first
                    | refine Fx.skip rfl rfl (by simp only [List.set_cons_zero, List.set_cons_succ]; rfl) ?_
                    | (with_reducible refine Fx.lab0 ?_
                       first
                         | refine Fx.moveT rfl rfl rfl (by simp only [List.set_cons_zero, List.set_cons_succ]; rfl) ?_
                         | refine Fx.assignT rfl rfl rfl (by simp only [List.set_cons_zero, List.set_cons_succ]; rfl) ?_
                         | refine Fx.pure_ rfl rfl (fun _ => by go_simp; first | done | rfl) (by simp only [List.set_cons_zero, List.set_cons_succ]; rfl) ?_)
                    | (with_reducible refine Fx.lab1 ?_
                       refine Fx.look rfl rfl (fun w' hC => by obtain ⟨hc, hf, hl⟩ := Ext.cells hC; go_simp; rfl) (by simp only [List.set_cons_zero, List.set_cons_succ]; rfl) ?_)
                refine Fx.store ⟨r, 0, none⟩ v3 rfl rfl (fun w' hC => by
                  obtain ⟨hc, hf, hl⟩ := hC.2.1.cells
                  have hne : ¬ v2.ownBlock = some r := fun h => by have := HF5.out r h; have := H3.out.cells.2.2; omega
                  have e1 := (hc r 0 lb hne).trans x0
                  have e2 := (hf r 0 lb hne).trans f0
                  obtain ⟨A3, n3, c3, rfl⟩ : ∃ A n cap, v3 = .slice A n cap := by obtain ⟨A, cap, e, _⟩ := hC.1.val; exact ⟨_, _, _, e⟩
                  clear hc hf hl hC
                  go_simp) ?_
                refine Fx.done (fun w7 hC => ?_)
                obtain ⟨w6, ⟨g1, g2, g3⟩, g4⟩ := hC
                have HG1 := Lib.hid g1
                have HG3 : Hid (∀ c, v3.ownBlock = some c → w3.heap.size ≤ c) := Lib.hid (fun c hc => (g3 c hc).elim (HF5.out c) (fun h => by omega))
                have HG2 : Hid (Ext w3 w6) := Lib.hid (((HE5.out.mods _).trans g2 (fun _ _ h => h)).ext_of (fun x hx h => by have := HF5.out x h; omega))
                have HG4 := Lib.hid g4
                clear g1 g2 g3 g4 x0 x1 f0
                go_wp2
                go_ret
                have hr3 : r < w3.heap.size := H3.out.cells.2.2
                have m7 : Mods (· = r) w6 w7 := (Mods.setCell w6 r 0 v3).then_ HG4.out
                have e7 : addE σ m = 0 := Hpa2.out.2
                refine ⟨by rw [e7]; rfl, v3, ?_, ((HE3.out.trans HG2.out).mods _).trans m7 (fun _ _ h => h), fun x hx => .inr (by have := HG3.out x hx; omega)⟩
                rw [HX.out]
                have hL : (([] ++ P.take k) ++ [m]) ++ P.drop k = P.take k ++ m :: P.drop k := by simp
                have hw6 := H3.out.ext HG2.out
                refine ⟨?_, ?_, hw6.d.mods m7 (fun x hx e => hw6.dr x hx e), fun x hx e => ?_, hw6.dr, fun x hx h => ?_⟩
                · exact ((hw6.o.set (i := 0) (by decide) v3).ext HG4.out).congr (fun i hi => by
                    match i, hi with
                    | 0, _ => rfl
                    | 1, _ => rfl)
                · rw [← hL]; exact HG1.out.mods m7 (fun x hx e => by have := HG3.out x hx; omega)
                · have := HG3.out x hx; omega
                · have h1 := HG3.out x hx
                  have h2 := H3.out.d.lt h
                  omega
            · go_upto_region 9 with fail
              refine wp_region_plan [(0,0),(1,0),(2,0),(3,0),(4,1),(5,0),(6,0),(7,0),(8,0),(9,0),(10,0),(11,1),(12,0),(13,0),(14,0),(15,1),(16,0),(17,1),(18,1),(19,0)] (by kernel_rfl) (by kernel_rfl) (by kernel_rfl) (Ext wr) (fun _ _ h k => h.trans k) (Ext.drawn _ _) ?_
              iterate 20
                first
                  | refine Fx.skip rfl rfl (by simp only [List.set_cons_zero, List.set_cons_succ]; rfl) ?_
                  | (with_reducible refine Fx.lab0 ?_
                     first
                       | refine Fx.moveT rfl rfl rfl (by simp only [List.set_cons_zero, List.set_cons_succ]; rfl) ?_
                       | refine Fx.assignT rfl rfl rfl (by simp only [List.set_cons_zero, List.set_cons_succ]; rfl) ?_
                       | refine Fx.pure_ rfl rfl (fun _ => by go_simp; first | done | rfl) (by simp only [List.set_cons_zero, List.set_cons_succ]; rfl) ?_)
                  | (with_reducible refine Fx.lab1 ?_
                     refine Fx.look rfl rfl (fun w' hC => by obtain ⟨hc, hf, hl⟩ := Ext.cells hC; go_simp; rfl) (by simp only [List.set_cons_zero, List.set_cons_succ]; rfl) ?_)
              refine Fx.done (fun w3 hC => ?_)
              have H3 := Lib.hid ((H2.out.ext hE.out).ext hC)
              have HE3 := Lib.hid ((HE2.out.trans hE.out).trans hC)
              have HB3 := Lib.hid ((HB2.out.ext hE.out).ext hC)
              have HNX : Hid (∀ (h : k < P.length), ltK P[k] m = false) := Lib.hid (fun h => absurd h hlt)
              clear H2 HE2 HB2 hC hE d0 d1 d2 x0 x1 lb dl
              have hins := insM_at m P k hk (fun j hj hjk => hal.out j hj hjk) HNX.out
              have HX := Lib.hid (Hpa2.out.1.trans hins)
              have hS1 := H3.out.ps.take k hk
              have hS2 := H3.out.ps.drop k hk
              have HS1 := Lib.hid hS1
              have HS2 := Lib.hid hS2
              obtain ⟨x0, x1, lb⟩ := H3.out.cells
              have hkc : k ≤ cap := by omega
              have hb := HB3.out.ms
              obtain ⟨d0, d1, d2⟩ := hb
              have dl := HB3.out.lt
              have s3 := HE3.out.size
              clear hins hS1 hS2
              go_upto_region 12 with fail
              refine wp_region_line [(0,0),(1,0),(2,0),(3,0),(4,1),(5,0),(6,0),(7,3),(8,0)] (by kernel_rfl) (by kernel_rfl) (Ext w3) (fun _ _ h k => h.trans k) (Ext.refl _) ?_
              iterate 6
                first
                  | refine Fx.skip rfl rfl (by simp only [List.set_cons_zero, List.set_cons_succ]; rfl) ?_
                  | (with_reducible refine Fx.lab0 ?_
                     first
                       | refine Fx.moveT rfl rfl rfl (by simp only [List.set_cons_zero, List.set_cons_succ]; rfl) ?_
                       | refine Fx.assignT rfl rfl rfl (by simp only [List.set_cons_zero, List.set_cons_succ]; rfl) ?_
                       | refine Fx.pure_ rfl rfl (fun _ => by go_simp; first | done | rfl) (by simp only [List.set_cons_zero, List.set_cons_succ]; rfl) ?_)
                  | (with_reducible refine Fx.lab1 ?_
                     refine Fx.look rfl rfl (fun w' hC => by obtain ⟨hc, hf, hl⟩ := Ext.cells hC; go_simp; rfl) (by simp only [List.set_cons_zero, List.set_cons_succ]; rfl) ?_)
              refine Fx.pure_ rfl rfl (fun w => op_takeS A P.length cap k k rfl rfl rfl hkc w) (by simp only [List.set_cons_zero, List.set_cons_succ]; rfl) ?_
              refine Fx.eff (fun v' w' => OwnMs w' v' ([] ++ P.take k) ∧ Mods (fun c => Value.ownBlock (.slice none 0 0) = some c) w3 w' ∧ (∀ c, v'.ownBlock = some c → Value.ownBlock (.slice none 0 0) = some c ∨ w3.heap.size ≤ c)) (fun v _ _ h k => ⟨h.1.ext k, h.2.1.then_ k, h.2.2⟩) rfl rfl
                (fun w' hC => stepAt_append hC Own.nil (HS1.out.ext hC) (by simp; omega) rfl rfl) (fun v1 => ?_)
              simp only [List.set_cons_zero, List.set_cons_succ]
              first
                | refine Fx.skip rfl rfl (by simp only [List.set_cons_zero, List.set_cons_succ]; rfl) ?_
                | (with_reducible refine Fx.lab0 ?_
                   first
                     | refine Fx.moveT rfl rfl rfl (by simp only [List.set_cons_zero, List.set_cons_succ]; rfl) ?_
                     | refine Fx.assignT rfl rfl rfl (by simp only [List.set_cons_zero, List.set_cons_succ]; rfl) ?_
                     | refine Fx.pure_ rfl rfl (fun _ => by go_simp; first | done | rfl) (by simp only [List.set_cons_zero, List.set_cons_succ]; rfl) ?_)
                | (with_reducible refine Fx.lab1 ?_
                   refine Fx.look rfl rfl (fun w' hC => by obtain ⟨hc, hf, hl⟩ := Ext.cells hC; go_simp; rfl) (by simp only [List.set_cons_zero, List.set_cons_succ]; rfl) ?_)
              refine Fx.done (fun w4 hC => ?_)
              obtain ⟨hA1, hA2, hA3⟩ := hC
              have hE4 : Ext w3 w4 := hA2.ext_of (fun x hx h => by simp [Value.ownBlock] at h)
              have HA1 := Lib.hid hA1
              have HA3 : Hid (∀ c, v1.ownBlock = some c → w3.heap.size ≤ c) := Lib.hid (fun c hc => (hA3 c hc).elim (fun h => by simp [Value.ownBlock] at h) id)
              obtain ⟨xc, xf, xl⟩ := hE4.cells
              replace d0 := (xc _ _ dl).trans d0
              replace d1 := (xc _ _ dl).trans d1
              replace d2 := (xc _ _ dl).trans d2
              replace dl := xl _ dl
              have HE4 := Lib.hid hE4
              have s4 := hE4.size
              have H4 := Lib.hid (H3.out.ext hE4)
              have HS24 := Lib.hid (HS2.out.ext hE4)
              clear xc xf xl hA1 hA2 hA3 hE4 x0 x1 lb
              go_upto_region 13 with fail
              refine wp_region_line [(0,0),(1,1),(2,2),(3,3),(4,0)] (by kernel_rfl) (by kernel_rfl) (Ext w4) (fun _ _ h k => h.trans k) (Ext.refl _) ?_
              first
                | refine Fx.skip rfl rfl (by simp only [List.set_cons_zero, List.set_cons_succ]; rfl) ?_
                | (with_reducible refine Fx.lab0 ?_
                   first
                     | refine Fx.moveT rfl rfl rfl (by simp only [List.set_cons_zero, List.set_cons_succ]; rfl) ?_
                     | refine Fx.assignT rfl rfl rfl (by simp only [List.set_cons_zero, List.set_cons_succ]; rfl) ?_
                     | refine Fx.pure_ rfl rfl (fun _ => by go_simp; first | done | rfl) (by simp only [List.set_cons_zero, List.set_cons_succ]; rfl) ?_)
                | (with_reducible refine Fx.lab1 ?_
                   refine Fx.look rfl rfl (fun w' hC => by obtain ⟨hc, hf, hl⟩ := Ext.cells hC; go_simp; rfl) (by simp only [List.set_cons_zero, List.set_cons_succ]; rfl) ?_)
              refine Fx.look rfl rfl (op_load_Ms' (m := m) dl d0 d1 d2 rfl) (by simp only [List.set_cons_zero, List.set_cons_succ]; rfl) ?_
              refine Fx.mkSl 1 1 (fun B w' => MsL w' (.slice (some ⟨B, 0, none⟩) 1 1) [m]) (fun B _ _ h k => h.ext k) rfl rfl (fun w' hC => stepAt_lit1 hC m rfl) (fun B2 => ?_)
              simp only [List.set_cons_zero, List.set_cons_succ]
              refine Fx.eff (fun v' w' => OwnMs w' v' (([] ++ P.take k) ++ [m]) ∧ Mods (fun c => v1.ownBlock = some c) w4 w' ∧ (∀ c, v'.ownBlock = some c → v1.ownBlock = some c ∨ w4.heap.size ≤ c)) (fun v _ _ h k => ⟨h.1.ext k, h.2.1.then_ k, h.2.2⟩) rfl rfl
                (fun w' hC => stepAt_append hC.1 (HA1.out.ext hC.1) hC.2 (by simp; omega) rfl rfl) (fun v2 => ?_)
              simp only [List.set_cons_zero, List.set_cons_succ]
              first
                | refine Fx.skip rfl rfl (by simp only [List.set_cons_zero, List.set_cons_succ]; rfl) ?_
                | (with_reducible refine Fx.lab0 ?_
                   first
                     | refine Fx.moveT rfl rfl rfl (by simp only [List.set_cons_zero, List.set_cons_succ]; rfl) ?_
                     | refine Fx.assignT rfl rfl rfl (by simp only [List.set_cons_zero, List.set_cons_succ]; rfl) ?_
                     | refine Fx.pure_ rfl rfl (fun _ => by go_simp; first | done | rfl) (by simp only [List.set_cons_zero, List.set_cons_succ]; rfl) ?_)
                | (with_reducible refine Fx.lab1 ?_
                   refine Fx.look rfl rfl (fun w' hC => by obtain ⟨hc, hf, hl⟩ := Ext.cells hC; go_simp; rfl) (by simp only [List.set_cons_zero, List.set_cons_succ]; rfl) ?_)
              refine Fx.done (fun w5 hC => ?_)
              obtain ⟨hA1', hA2', hA3'⟩ := hC
              have hE5 : Ext w3 w5 := ((HE4.out.mods _).trans hA2' (fun _ _ h => h)).ext_of (fun x hx h => by have := HA3.out x h; omega)
              have HA5 := Lib.hid hA1'
              have HF5 : Hid (∀ c, v2.ownBlock = some c → w3.heap.size ≤ c) := Lib.hid (fun c hc => (hA3' c hc).elim (HA3.out c) (fun h => by omega))
              have HE5 := Lib.hid hE5
              have H5 := Lib.hid (H3.out.ext hE5)
              have HS25 := Lib.hid (HS2.out.ext hE5)
              have s5 := hE5.size
              obtain ⟨x0, x1, lb⟩ := H5.out.cells
              have f0 := H5.out.o.free 0
              clear hA1' hA2' hA3' hE5 d0 d1 d2 dl
              go_upto_region 14 with fail
              refine wp_region_line [(0,0),(1,0),(2,0),(3,0),(4,0),(5,1),(6,0),(7,0),(8,3),(9,0),(10,0),(11,3)] (by kernel_rfl) (by kernel_rfl) (Ext w5) (fun _ _ h k => h.trans k) (Ext.refl _) ?_
              iterate 7
                first
                  | refine Fx.skip rfl rfl (by simp only [List.set_cons_zero, List.set_cons_succ]; rfl) ?_
                  | (with_reducible refine Fx.lab0 ?_
                     first
                       | refine Fx.moveT rfl rfl rfl (by simp only [List.set_cons_zero, List.set_cons_succ]; rfl) ?_
                       | refine Fx.assignT rfl rfl rfl (by simp only [List.set_cons_zero, List.set_cons_succ]; rfl) ?_
                       | refine Fx.pure_ rfl rfl (fun _ => by go_simp; first | done | rfl) (by simp only [List.set_cons_zero, List.set_cons_succ]; rfl) ?_)
                  | (with_reducible refine Fx.lab1 ?_
                     refine Fx.look rfl rfl (fun w' hC => by obtain ⟨hc, hf, hl⟩ := Ext.cells hC; go_simp; rfl) (by simp only [List.set_cons_zero, List.set_cons_succ]; rfl) ?_)
              refine Fx.pure_ rfl rfl (fun w => op_drop A P.length cap k k rfl rfl rfl hk w) (by simp only [List.set_cons_zero, List.set_cons_succ]; rfl) ?_
              refine Fx.eff (fun v' w' => OwnMs w' v' ((([] ++ P.take k) ++ [m]) ++ P.drop k) ∧ Mods (fun c => v2.ownBlock = some c) w5 w' ∧ (∀ c, v'.ownBlock = some c → v2.ownBlock = some c ∨ w5.heap.size ≤ c)) (fun v _ _ h k => ⟨h.1.ext k, h.2.1.then_ k, h.2.2⟩) rfl rfl
                (fun w' hC => stepAt_append hC (HA5.out.ext hC) (HS25.out.ext hC) (by simp; omega) rfl rfl) (fun v3 => ?_)
              simp only [List.set_cons_zero, List.set_cons_succ]
              iterate 2
                first
                  | refine Fx.skip rfl rfl (by simp only [List.set_cons_zero, List.set_cons_succ]; rfl) ?_
                  | (with_reducible refine Fx.lab0 ?_
                     first
                       | refine Fx.moveT rfl rfl rfl (by simp only [List.set_cons_zero, List.set_cons_succ]; rfl) ?_
                       | refine Fx.assignT rfl rfl rfl (by simp only [List.set_cons_zero, List.set_cons_succ]; rfl) ?_
                       | refine Fx.pure_ rfl rfl (fun _ => by go_simp; first | done | rfl) (by simp only [List.set_cons_zero, List.set_cons_succ]; rfl) ?_)
                  | (with_reducible refine Fx.lab1 ?_
                     refine Fx.look rfl rfl (fun w' hC => by obtain ⟨hc, hf, hl⟩ := Ext.cells hC; go_simp; rfl) (by simp only [List.set_cons_zero, List.set_cons_succ]; rfl) ?_)
              refine Fx.store ⟨r, 0, none⟩ v3 rfl rfl (fun w' hC => by
                obtain ⟨hc, hf, hl⟩ := hC.2.1.cells
                have hne : ¬ v2.ownBlock = some r := fun h => by have := HF5.out r h; have := H3.out.cells.2.2; omega
                have e1 := (hc r 0 lb hne).trans x0
                have e2 := (hf r 0 lb hne).trans f0
                obtain ⟨A3, n3, c3, rfl⟩ : ∃ A n cap, v3 = .slice A n cap := by obtain ⟨A, cap, e, _⟩ := hC.1.val; exact ⟨_, _, _, e⟩
                clear hc hf hl hC
                go_simp) ?_
              refine Fx.done (fun w7 hC => ?_)
              obtain ⟨w6, ⟨g1, g2, g3⟩, g4⟩ := hC
              have HG1 := Lib.hid g1
              have HG3 : Hid (∀ c, v3.ownBlock = some c → w3.heap.size ≤ c) := Lib.hid (fun c hc => (g3 c hc).elim (HF5.out c) (fun h => by omega))
              have HG2 : Hid (Ext w3 w6) := Lib.hid (((HE5.out.mods _).trans g2 (fun _ _ h => h)).ext_of (fun x hx h => by have := HF5.out x h; omega))
              have HG4 := Lib.hid g4
              clear g1 g2 g3 g4 x0 x1 f0
              go_wp2
              go_ret
              have hr3 : r < w3.heap.size := H3.out.cells.2.2
              have m7 : Mods (· = r) w6 w7 := (Mods.setCell w6 r 0 v3).then_ HG4.out
              have e7 : addE σ m = 0 := Hpa2.out.2
              refine ⟨by rw [e7]; rfl, v3, ?_, ((HE3.out.trans HG2.out).mods _).trans m7 (fun _ _ h => h), fun x hx => .inr (by have := HG3.out x hx; omega)⟩
              rw [HX.out]
              have hL : (([] ++ P.take k) ++ [m]) ++ P.drop k = P.take k ++ m :: P.drop k := by simp
              have hw6 := H3.out.ext HG2.out
              refine ⟨?_, ?_, hw6.d.mods m7 (fun x hx e => hw6.dr x hx e), fun x hx e => ?_, hw6.dr, fun x hx h => ?_⟩
              · exact ((hw6.o.set (i := 0) (by decide) v3).ext HG4.out).congr (fun i hi => by
                  match i, hi with
                  | 0, _ => rfl
                  | 1, _ => rfl)
              · rw [← hL]; exact HG1.out.mods m7 (fun x hx e => by have := HG3.out x hx; omega)
              · have := HG3.out x hx; omega
              · have h1 := HG3.out x hx
                have h2 := H3.out.d.lt h
                omega
end Go.Proofs.Ytkkcdoajdhbofaa
