/-
  rostrumlaw12.BatchAll: what it computes.
-/
import Derived.Test.YtkkcdoajdhbofaaTwice
namespace Go.Proofs.Ytkkcdoajdhbofaa
open Go.RowKit
attribute [local go_sem] Oper.semAt_some

set_option maxRecDepth 100000 in
set_option maxHeartbeats 6400000 in
theorem all_law (w : World) (v : Value) (l : List Ms) (n : Int) (hl : MsL w v l) : Calls Try.prog 6 #[v, .int .i64 n] w (LawP w) := by
  have HL := Lib.hid hl
  obtain ⟨A, cap, rfl, hcap, hmax⟩ := hl.val
  clear hl hcap hmax
  go_enter Try.func6, Try.ntmps6
  go_upto_region 2 with (go_at_call 10; refine (shown_at _).mono ?_; rintro e w1 ⟨rfl, hE1⟩; have H1 := Lib.hid hE1; clear hE1)
  go_upto_region 3 with (go_at_call 23; refine (cut_at _ _ l (HL.out.ext H1.out)).mono ?_; rintro e w2 ⟨fv, rfl, hown, hE2, hblk⟩; obtain ⟨fA, fcap, rfl, hfc⟩ := hown.val; have HF := Lib.hid hown; have H2 := Lib.hid hE2; clear hown hE2 hblk hfc)
  have hL80 : (cutL l).length ≤ 80 := cutL_len l
  have HL2 := Lib.hid (HF.out.sl Ms.len)
  have HE2 := Lib.hid (H1.out.trans H2.out)
  clear HF HL H1 H2
  generalize cutL l = L at *
  by_cases hn : 1 ≤ n ∧ n ≤ 64
  · obtain ⟨hn1, hn2⟩ := hn
    obtain ⟨N, rfl⟩ : ∃ N : Nat, n = N := ⟨n.toNat, by omega⟩
    have t1 : decide ((N : Int) < 1) = false := by simp; omega
    have t2 : decide (64 < (N : Int)) = false := by simp; omega
    have t3 : decide (N < 1) = false := by simp; omega
    have t4 : decide (64 < N) = false := by simp; omega
    go_upto_region 6 with (go_at_call 11; refine (new_at _).mono ?_; rintro e w3 ⟨b, mw, md, rfl, hM, hE, hf⟩; have HI := Lib.hid (PoolI.new hM hE hf); clear hM hE hf)
    clear t1 t2 t3 t4
    go_wp2
    go_loopw [7] (fun q wr => ∃ (k : Nat), k ≤ L.length ∧ q = .int .i64 k ∧ Hid (PoolI w2 b mw md (stP L k) wr)) (fun q _ => L.length - (intOf q).toNat)
    case atStart => exact ⟨0, Nat.zero_le _, rfl, by rw [stP_zero]; exact HI⟩
    case round =>
      obtain ⟨k, hk, rfl, hI⟩ := hrel
      by_cases hlt : k < L.length
      · obtain ⟨jb, joff, rfl, hjbl, j0, j1, j2⟩ := Sl.at3 (HL2.out.ext hI.out.e) hlt
        have hst := stP_succ L hlt
        generalize L[k] = m at *
        obtain ⟨σ, hσ⟩ : ∃ σ, stP L k = σ := ⟨_, rfl⟩
        rw [hσ] at hI hst
        have Hst := Lib.hid hst
        have hwk : IntKind.i64.wrap ((k : Int) + 1) = (k : Int) + 1 := IntWalk.i64_in _ ⟨by omega, by omega⟩
        clear hσ hst
        go_upto_region 9 with fail
        refine wp_region_line [(0,0),(1,0),(2,0),(3,0),(4,1),(5,3)] (by kernel_rfl) (by kernel_rfl) (Ext wr) (fun _ _ h k => h.trans k) (Ext.refl _) ?_
        iterate 4
          first
            | refine Fx.skip rfl rfl (by simp only [List.set_cons_zero, List.set_cons_succ]; rfl) ?_
            | (with_reducible refine Fx.lab0 ?_
               first
                 | refine Fx.moveT rfl rfl rfl (by simp only [List.set_cons_zero, List.set_cons_succ]; rfl) ?_
                 | refine Fx.assignT rfl rfl rfl (by simp only [List.set_cons_zero, List.set_cons_succ]; rfl) ?_
                 | refine Fx.pure_ rfl rfl (fun _ => by go_simp; first | done | rfl) (by simp only [List.set_cons_zero, List.set_cons_succ]; rfl) ?_)
            | (with_reducible refine Fx.lab1 ?_
               refine Fx.look rfl rfl (fun w' hC => by obtain ⟨hc, hf, hl⟩ := Ext.cells hC; go_simp; rfl) (by simp only [List.set_cons_zero, List.set_cons_succ]; rfl) ?_)
        refine Fx.look rfl rfl (op_load_Ms' (m := m) hjbl j0 j1 j2 rfl) (by simp only [List.set_cons_zero, List.set_cons_succ]; rfl) ?_
        refine Fx.eff (fun _ w' => PoolI w2 b mw md (addS σ m) w') (fun _ _ _ h k => h.ext' k) rfl rfl (fun w' hC => stepAt_mono (stepAt_add hI.out m hC (by first | (go_simp; done) | (go_simp; rfl))) (fun _ _ hh => hh.2.1)) (fun u => ?_)
        simp only [List.set_cons_zero, List.set_cons_succ]
        refine Fx.done (fun w5 hC => ?_)
        have Hw5 := Lib.hid hC
        clear hC j0 j1 j2 hjbl
        go_wp2
        go_roundw
        case rel => exact ⟨k + 1, by omega, by go_num, by rw [Hst.out]; exact Hw5⟩
        case measure => simp [intOf]; omega
      · have hkl : k = L.length := by omega
        obtain ⟨⟨-, -, hhas⟩, hln⟩ := stP_all L hL80 k hk
        rw [hkl, List.take_length] at hhas
        rw [hkl] at hln hI
        obtain ⟨σ, hσ⟩ : ∃ σ, stP L L.length = σ := ⟨_, rfl⟩
        rw [hσ] at hI hhas hln
        obtain ⟨r, hr⟩ : ∃ r, (pend σ).length = r := ⟨_, rfl⟩
        have hr80 : r ≤ 80 := by rw [← hr, pend_len]; omega
        have HHas := Lib.hid hhas
        have HR := Lib.hid hr
        clear hσ hhas hln hr hkl
        go_upto_region 10 with fail
        refine wp_region_line [(0,0),(1,2),(2,0),(3,0)] (by kernel_rfl) (by kernel_rfl) (Ext wr) (fun _ _ h k => h.trans k) (Ext.refl _) ?_
        first
          | refine Fx.skip rfl rfl (by simp only [List.set_cons_zero, List.set_cons_succ]; rfl) ?_
          | (with_reducible refine Fx.lab0 ?_
             first
               | refine Fx.moveT rfl rfl rfl (by simp only [List.set_cons_zero, List.set_cons_succ]; rfl) ?_
               | refine Fx.assignT rfl rfl rfl (by simp only [List.set_cons_zero, List.set_cons_succ]; rfl) ?_
               | refine Fx.pure_ rfl rfl (fun _ => by go_simp; first | done | rfl) (by simp only [List.set_cons_zero, List.set_cons_succ]; rfl) ?_)
          | (with_reducible refine Fx.lab1 ?_
             refine Fx.look rfl rfl (fun w' hC => by obtain ⟨hc, hf, hl⟩ := Ext.cells hC; go_simp; rfl) (by simp only [List.set_cons_zero, List.set_cons_succ]; rfl) ?_)
        refine Fx.mkBy (fun x : Option Addr × Nat => .slice x.1 r x.2) (fun _ _ => True) (fun _ _ _ h _ => h) rfl rfl (fun w' hC => ?_) (fun x => ?_)
        · unfold stepAt
          rw [show (execOp _ _).run Try.prog w' = .ok (.enter 20 #[.pointer (some ⟨b, 0, none⟩)]) w' from by first | (go_simp; done) | (go_simp; rfl)]
          exact (pend_at (hI.out.p.ext hC) hI.out.ok).mono (fun e w'' hh => by
            obtain ⟨v', rfl, h1, h2, h3⟩ := hh
            obtain ⟨A', c', rfl, -⟩ := h1.val
            exact ⟨_, rfl, (A', c'), by rw [HR.out], h2, trivial⟩)
        simp only [List.set_cons_zero, List.set_cons_succ]
        iterate 2
          first
            | refine Fx.skip rfl rfl (by simp only [List.set_cons_zero, List.set_cons_succ]; rfl) ?_
            | (with_reducible refine Fx.lab0 ?_
               first
                 | refine Fx.moveT rfl rfl rfl (by simp only [List.set_cons_zero, List.set_cons_succ]; rfl) ?_
                 | refine Fx.assignT rfl rfl rfl (by simp only [List.set_cons_zero, List.set_cons_succ]; rfl) ?_
                 | refine Fx.pure_ rfl rfl (fun _ => by go_simp; first | done | rfl) (by simp only [List.set_cons_zero, List.set_cons_succ]; rfl) ?_)
            | (with_reducible refine Fx.lab1 ?_
               refine Fx.look rfl rfl (fun w' hC => by obtain ⟨hc, hf, hl⟩ := Ext.cells hC; go_simp; rfl) (by simp only [List.set_cons_zero, List.set_cons_succ]; rfl) ?_)
        refine Fx.done (fun w5 hC => ?_)
        have HI5 := Lib.hid (hI.out.ext' hC.1)
        clear hC hI
        go_wp2
        generalize wr = wA at *
        go_loopw [8, 9] (fun q p wx => ∃ (i r : Nat) (σ : PSt), i ≤ 81 ∧ p = .int .i64 i ∧ q = .int .i64 r ∧ r ≤ 80 - i ∧ Hid ((pend σ).length = r) ∧ Hid (PoolI w2 b mw md σ wx) ∧ Hid (∀ m ∈ L, rightB m = true → hasP σ (keyM m) = true)) (fun _ p _ => 81 - (intOf p).toNat)
        case atStart => exact ⟨0, r, σ, Nat.zero_le _, rfl, rfl, by omega, HR, HI5, HHas⟩
        case round =>
          clear HI5 HHas HR hr80
          obtain ⟨i, r, σ, hi, rfl, rfl, hr80, hr, hI, hHas⟩ := hrel
          by_cases hi81 : i < 81
          · have hi81I : (i : Int) < 81 := by omega
            have hbL : batchL σ (N : Int) = (pend σ).take N := by unfold batchL; rw [if_pos ⟨hn1, hn2⟩, Int.toNat_natCast]
            have hbE : batchE (N : Int) = 0 := by unfold batchE; rw [if_pos ⟨hn1, hn2⟩]
            obtain ⟨d1, d2, d3⟩ := batch_done hI.out.ok N
            obtain ⟨bl, hbl⟩ : ∃ bl, min N r = bl := ⟨_, rfl⟩
            obtain ⟨B, hB⟩ : ∃ B, (pend σ).take N = B := ⟨_, rfl⟩
            have hBl : B.length = bl := by rw [← hB, List.length_take, hr.out]; exact hbl
            rw [hB] at hbL d1 d2 d3
            have hpl : (pend (doneS σ B)).length = r - bl := by rw [d3, List.length_drop, hr.out]; omega
            have hmi : min (N : Int) (r : Int) = (bl : Int) := by omega
            have hws : IntKind.i64.wrap ((r : Int) - (bl : Int)) = ((r - bl : Nat) : Int) := by rw [IntWalk.i64_in _ ⟨by omega, by omega⟩]; omega
            have hwi : IntKind.i64.wrap ((i : Int) + 1) = (i : Int) + 1 := IntWalk.i64_in _ ⟨by omega, by omega⟩
            have hle : r - bl ≤ 80 - (i + 1) := by omega
            have HbL := Lib.hid hbL
            have HbE := Lib.hid hbE
            have D1 := Lib.hid d1
            have D2 := Lib.hid d2
            have HBl := Lib.hid hBl
            have HPl := Lib.hid hpl
            have Hle := Lib.hid hle
            have HHas2 : Hid (∀ m ∈ L, rightB m = true → hasP (doneS σ B) (keyM m) = true) := Lib.hid (fun m hm hr => hasP_doneS B (hHas.out m hm hr))
            clear hbL hbE d1 d2 d3 hbl hB hBl hpl hle
            go_upto_region 15 with (go_at_call 15; refine (batch_at hI.out.p hI.out.ok (N : Int)).mono ?_; rintro e w6 ⟨nv, h0, h1, h2, h3⟩; rw [HbE.out] at h0; subst h0; rw [HbL.out] at h1; obtain ⟨bA, bcap, hnv, -⟩ := h1.val; rw [HBl.out] at hnv; subst hnv; have HB := Lib.hid h1; have HI6 := Lib.hid (hI.out.ext' h2); have HNb := Lib.hid h3; clear h1 h2 h3)
            have hno : ∀ x, Value.ownBlock (.slice bA bl bcap) = some x → ¬ FP b mw md x := fun x hx h => by have := HNb.out x hx; have := hI.out.p.lt h; omega
            have HNo := Lib.hid hno
            have hB1000 : B.length ≤ 1000000 := by rw [HBl.out]; omega
            have HB1000 := Lib.hid hB1000
            clear hno hB1000
            go_upto_region 16 with (go_at_call 18; refine (done_at HI6.out.p _ B (HB.out.sl Ms.len) HB1000.out HNo.out).mono ?_; rintro e w7 ⟨mv, h0, h1, h2, h3, h4⟩; rw [D2.out] at h0; subst h0; rw [D1.out] at h2; obtain ⟨mA, mcap, hmv, -⟩ := h2.val; rw [HBl.out] at hmv; subst hmv; have HI7 := Lib.hid (HI6.out.step h1 (doneS_ok HI6.out.ok _) h3); clear h1 h2 h3 h4)
            go_wp2
            go_roundw
            case rel => exact ⟨i + 1, r - bl, doneS σ B, by omega, by go_num, rfl, Hle.out, HPl, HI7, HHas2⟩
            case measure => simp [intOf]; omega
          · have hi81I : ¬ (i : Int) < 81 := by omega
            have hr0 : r = 0 := by omega
            subst hr0
            have Hdone : Hid (∀ m ∈ L, rightB m = true → isB σ (keyM m) = true) := Lib.hid (fun m hm h => isB_of_empty (hHas.out m hm h) hr.out)
            clear hr80 hHas
            go_wp2
            generalize wr = wC at *
            go_loopw [14] (fun q wx => ∃ (k : Nat), k ≤ L.length ∧ q = .int .i64 k ∧ Hid (PoolI w2 b mw md σ wx)) (fun q _ => L.length - (intOf q).toNat)
            case atStart => exact ⟨0, Nat.zero_le _, rfl, hI⟩
            case round =>
              clear hI
              obtain ⟨k, hk, rfl, hI⟩ := hrel
              by_cases hlt : k < L.length
              · obtain ⟨jb, joff, rfl, hjbl, j0, j1, j2⟩ := Sl.at3 (HL2.out.ext hI.out.e) hlt
                have hwk : IntKind.i64.wrap ((k : Int) + 1) = (k : Int) + 1 := IntWalk.i64_in _ ⟨by omega, by omega⟩
                obtain ⟨m, hm⟩ : ∃ m, L[k] = m := ⟨_, rfl⟩
                have hmL : m ∈ L := by rw [← hm]; exact List.getElem_mem _
                rw [hm] at j0 j1 j2
                obtain ⟨x, hx⟩ : ∃ x, rightB m = x := ⟨_, rfl⟩
                obtain ⟨y, hy⟩ : ∃ y, isB σ (m.f, m.c) = y := ⟨_, rfl⟩
                have hxy : x = true → y = true := fun h => by rw [← hy]; exact Hdone.out m hmL (by rw [hx]; exact h)
                have HX := Lib.hid hx
                have HY := Lib.hid hy
                clear hm hmL hx hy
                go_upto_region 22 with fail
                refine wp_region_plan [(0,0),(1,0),(2,0),(3,1),(4,1),(5,0),(6,0),(7,0),(8,0),(9,0),(10,1),(11,1),(12,0),(13,0),(14,0),(15,0),(16,0),(17,1),(18,1),(19,0)] (by kernel_rfl) (by kernel_rfl) (by kernel_rfl) (Ext wr) (fun _ _ h k => h.trans k) (Ext.drawn _ _) ?_
                iterate 3
                  first
                    | refine Fx.skip rfl rfl (by simp only [List.set_cons_zero, List.set_cons_succ]; rfl) ?_
                    | (with_reducible refine Fx.lab0 ?_
                       first
                         | refine Fx.moveT rfl rfl rfl (by simp only [List.set_cons_zero, List.set_cons_succ]; rfl) ?_
                         | refine Fx.assignT rfl rfl rfl (by simp only [List.set_cons_zero, List.set_cons_succ]; rfl) ?_
                         | refine Fx.pure_ rfl rfl (fun _ => by go_simp; first | done | rfl) (by simp only [List.set_cons_zero, List.set_cons_succ]; rfl) ?_)
                    | (with_reducible refine Fx.lab1 ?_
                       refine Fx.look rfl rfl (fun w' hC => by obtain ⟨hc, hf, hl⟩ := Ext.cells hC; go_simp; rfl) (by simp only [List.set_cons_zero, List.set_cons_succ]; rfl) ?_)
                refine Fx.look rfl rfl (op_load_Ms' (m := m) hjbl j0 j1 j2 rfl) (by simp only [List.set_cons_zero, List.set_cons_succ]; rfl) ?_
                refine Fx.call1 (v := .bool x) (args := #[m.val]) rfl rfl (fun _ => by first | (go_simp; done) | (go_simp; rfl)) (fun w' hC => (right_ref m w').mono (fun e w'' hh => by rw [HX.out] at hh; exact hh)) (by simp only [List.set_cons_zero, List.set_cons_succ]; rfl) ?_
                iterate 5
                  first
                    | refine Fx.skip rfl rfl (by simp only [List.set_cons_zero, List.set_cons_succ]; rfl) ?_
                    | (with_reducible refine Fx.lab0 ?_
                       first
                         | refine Fx.moveT rfl rfl rfl (by simp only [List.set_cons_zero, List.set_cons_succ]; rfl) ?_
                         | refine Fx.assignT rfl rfl rfl (by simp only [List.set_cons_zero, List.set_cons_succ]; rfl) ?_
                         | refine Fx.pure_ rfl rfl (fun _ => by go_simp; first | done | rfl) (by simp only [List.set_cons_zero, List.set_cons_succ]; rfl) ?_)
                    | (with_reducible refine Fx.lab1 ?_
                       refine Fx.look rfl rfl (fun w' hC => by obtain ⟨hc, hf, hl⟩ := Ext.cells hC; go_simp; rfl) (by simp only [List.set_cons_zero, List.set_cons_succ]; rfl) ?_)
                refine Fx.look rfl rfl (op_load_Id' hjbl j0 j1 rfl) (by simp only [List.set_cons_zero, List.set_cons_succ]; rfl) ?_
                refine Fx.call1 (v := .bool y) (args := #[.pointer (some ⟨b, 0, none⟩), .agg #[.int .i64 m.f, .int .u32 m.c]]) rfl rfl (fun _ => by first | (go_simp; done) | (go_simp; rfl)) (fun w' hC => (is_at (hI.out.p.ext hC) m.f m.c).mono (fun e w'' hh => by rw [HY.out] at hh; exact hh)) (by simp only [List.set_cons_zero, List.set_cons_succ]; rfl) ?_
                cases x with
                | true =>
                  obtain rfl := hxy rfl
                  iterate 8
                    first
                      | refine Fx.skip rfl rfl (by simp only [List.set_cons_zero, List.set_cons_succ]; rfl) ?_
                      | (with_reducible refine Fx.lab0 ?_
                         first
                           | refine Fx.moveT rfl rfl rfl (by simp only [List.set_cons_zero, List.set_cons_succ]; rfl) ?_
                           | refine Fx.assignT rfl rfl rfl (by simp only [List.set_cons_zero, List.set_cons_succ]; rfl) ?_
                           | refine Fx.pure_ rfl rfl (fun _ => by go_simp; first | done | rfl) (by simp only [List.set_cons_zero, List.set_cons_succ]; rfl) ?_)
                      | (with_reducible refine Fx.lab1 ?_
                         refine Fx.look rfl rfl (fun w' hC => by obtain ⟨hc, hf, hl⟩ := Ext.cells hC; go_simp; rfl) (by simp only [List.set_cons_zero, List.set_cons_succ]; rfl) ?_)
                  refine Fx.done (fun w8 hC => ?_)
                  have HC := Lib.hid (hI.out.ext' hC)
                  clear hC j0 j1 j2 hxy
                  go_wp2
                  go_roundw
                  case rel => exact ⟨k + 1, by omega, by go_num, HC⟩
                  case measure => simp [intOf]; omega
                | false =>
                  clear hxy
                  cases y with
                  | false =>
                    iterate 8
                      first
                        | refine Fx.skip rfl rfl (by simp only [List.set_cons_zero, List.set_cons_succ]; rfl) ?_
                        | (with_reducible refine Fx.lab0 ?_
                           first
                             | refine Fx.moveT rfl rfl rfl (by simp only [List.set_cons_zero, List.set_cons_succ]; rfl) ?_
                             | refine Fx.assignT rfl rfl rfl (by simp only [List.set_cons_zero, List.set_cons_succ]; rfl) ?_
                             | refine Fx.pure_ rfl rfl (fun _ => by go_simp; first | done | rfl) (by simp only [List.set_cons_zero, List.set_cons_succ]; rfl) ?_)
                        | (with_reducible refine Fx.lab1 ?_
                           refine Fx.look rfl rfl (fun w' hC => by obtain ⟨hc, hf, hl⟩ := Ext.cells hC; go_simp; rfl) (by simp only [List.set_cons_zero, List.set_cons_succ]; rfl) ?_)
                    refine Fx.done (fun w8 hC => ?_)
                    have HC := Lib.hid (hI.out.ext' hC)
                    clear hC j0 j1 j2
                    go_wp2
                    go_roundw
                    case rel => exact ⟨k + 1, by omega, by go_num, HC⟩
                    case measure => simp [intOf]; omega
                  | true =>
                    iterate 5
                      first
                        | refine Fx.skip rfl rfl (by simp only [List.set_cons_zero, List.set_cons_succ]; rfl) ?_
                        | (with_reducible refine Fx.lab0 ?_
                           first
                             | refine Fx.moveT rfl rfl rfl (by simp only [List.set_cons_zero, List.set_cons_succ]; rfl) ?_
                             | refine Fx.assignT rfl rfl rfl (by simp only [List.set_cons_zero, List.set_cons_succ]; rfl) ?_
                             | refine Fx.pure_ rfl rfl (fun _ => by go_simp; first | done | rfl) (by simp only [List.set_cons_zero, List.set_cons_succ]; rfl) ?_)
                        | (with_reducible refine Fx.lab1 ?_
                           refine Fx.look rfl rfl (fun w' hC => by obtain ⟨hc, hf, hl⟩ := Ext.cells hC; go_simp; rfl) (by simp only [List.set_cons_zero, List.set_cons_succ]; rfl) ?_)
                    refine Fx.look rfl rfl (op_load_Ms' (m := m) hjbl j0 j1 j2 rfl) (by simp only [List.set_cons_zero, List.set_cons_succ]; rfl) ?_
                    refine Fx.call1 (v := .bool false) (args := #[m.val]) rfl rfl (fun _ => by first | (go_simp; done) | (go_simp; rfl)) (fun w' hC => (right_ref m w').mono (fun e w'' hh => by rw [HX.out] at hh; exact hh)) (by simp only [List.set_cons_zero, List.set_cons_succ]; rfl) ?_
                    first
                      | refine Fx.skip rfl rfl (by simp only [List.set_cons_zero, List.set_cons_succ]; rfl) ?_
                      | (with_reducible refine Fx.lab0 ?_
                         first
                           | refine Fx.moveT rfl rfl rfl (by simp only [List.set_cons_zero, List.set_cons_succ]; rfl) ?_
                           | refine Fx.assignT rfl rfl rfl (by simp only [List.set_cons_zero, List.set_cons_succ]; rfl) ?_
                           | refine Fx.pure_ rfl rfl (fun _ => by go_simp; first | done | rfl) (by simp only [List.set_cons_zero, List.set_cons_succ]; rfl) ?_)
                      | (with_reducible refine Fx.lab1 ?_
                         refine Fx.look rfl rfl (fun w' hC => by obtain ⟨hc, hf, hl⟩ := Ext.cells hC; go_simp; rfl) (by simp only [List.set_cons_zero, List.set_cons_succ]; rfl) ?_)
                    refine Fx.done (fun w8 hC => ?_)
                    have HC := Lib.hid (hI.out.ext' hC)
                    clear hC j0 j1 j2
                    go_wp2
                    go_roundw
                    case rel => exact ⟨k + 1, by omega, by go_num, HC⟩
                    case measure => simp [intOf]; omega
              · go_upto_region 24 with fail
                refine wp_region_line [(0,0),(1,0),(2,0),(3,0),(4,0),(5,0),(6,0),(7,2),(8,0),(9,0),(10,0),(11,0)] (by kernel_rfl) (by kernel_rfl) (Ext wr) (fun _ _ h k => h.trans k) (Ext.refl _) ?_
                iterate 7
                  first
                    | refine Fx.skip rfl rfl (by simp only [List.set_cons_zero, List.set_cons_succ]; rfl) ?_
                    | (with_reducible refine Fx.lab0 ?_
                       first
                         | refine Fx.moveT rfl rfl rfl (by simp only [List.set_cons_zero, List.set_cons_succ]; rfl) ?_
                         | refine Fx.assignT rfl rfl rfl (by simp only [List.set_cons_zero, List.set_cons_succ]; rfl) ?_
                         | refine Fx.pure_ rfl rfl (fun _ => by go_simp; first | done | rfl) (by simp only [List.set_cons_zero, List.set_cons_succ]; rfl) ?_)
                    | (with_reducible refine Fx.lab1 ?_
                       refine Fx.look rfl rfl (fun w' hC => by obtain ⟨hc, hf, hl⟩ := Ext.cells hC; go_simp; rfl) (by simp only [List.set_cons_zero, List.set_cons_succ]; rfl) ?_)
                refine Fx.mkBy (fun x : Option Addr × Nat => .slice x.1 0 x.2) (fun _ _ => True) (fun _ _ _ h _ => h) rfl rfl (fun w' hC => ?_) (fun x => ?_)
                · unfold stepAt
                  rw [show (execOp _ _).run Try.prog w' = .ok (.enter 20 #[.pointer (some ⟨b, 0, none⟩)]) w' from by first | (go_simp; done) | (go_simp; rfl)]
                  exact (pend_at (hI.out.p.ext hC) hI.out.ok).mono (fun e w'' hh => by
                    obtain ⟨v', rfl, h1, h2, h3⟩ := hh
                    obtain ⟨A', c', rfl, -⟩ := h1.val
                    exact ⟨_, rfl, (A', c'), by rw [hr.out], h2, trivial⟩)
                simp only [List.set_cons_zero, List.set_cons_succ]
                iterate 4
                  first
                    | refine Fx.skip rfl rfl (by simp only [List.set_cons_zero, List.set_cons_succ]; rfl) ?_
                    | (with_reducible refine Fx.lab0 ?_
                       first
                         | refine Fx.moveT rfl rfl rfl (by simp only [List.set_cons_zero, List.set_cons_succ]; rfl) ?_
                         | refine Fx.assignT rfl rfl rfl (by simp only [List.set_cons_zero, List.set_cons_succ]; rfl) ?_
                         | refine Fx.pure_ rfl rfl (fun _ => by go_simp; first | done | rfl) (by simp only [List.set_cons_zero, List.set_cons_succ]; rfl) ?_)
                    | (with_reducible refine Fx.lab1 ?_
                       refine Fx.look rfl rfl (fun w' hC => by obtain ⟨hc, hf, hl⟩ := Ext.cells hC; go_simp; rfl) (by simp only [List.set_cons_zero, List.set_cons_succ]; rfl) ?_)
                refine Fx.done (fun w8 hC => ?_)
                have HC := Lib.hid hC.1
                clear hC
                go_wp2
                go_ret
                exact ⟨rfl, HE2.out.trans (hI.out.e.trans HC.out)⟩
  · by_cases h1 : n < 1
    · clear hn
      go_wp2
      go_ret
      exact ⟨rfl, HE2.out⟩
    · have h2 : 64 < n := by omega
      clear hn
      go_wp2
      go_ret
      exact ⟨rfl, HE2.out⟩
end Go.Proofs.Ytkkcdoajdhbofaa
