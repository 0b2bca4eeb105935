/-
  rostrumlaw12.BatchOrder: what it computes.
-/
import Derived.Test.YtkkcdoajdhbofaaTwice
namespace Go.Proofs.Ytkkcdoajdhbofaa
open Go.RowKit
attribute [local go_sem] Oper.semAt_some

theorem rise_at {l : List Ms} (h : Rise l) {p i : Nat} (hp : p < i) (hi : i < l.length) : l[p].f < l[i].f ∨ l[p].f = l[i].f ∧ l[p].c < l[i].c := ltK_iff.1 (List.pairwise_iff_getElem.1 h p i (by omega) hi hp)
set_option maxRecDepth 100000 in
set_option maxHeartbeats 3200000 in
theorem order_law (w : World) (v : Value) (l : List Ms) (n : Int) (hl : MsL w v l) : Calls Try.prog 7 #[v, .int .i64 n] w (LawP w) := by
  have HL := Lib.hid hl
  obtain ⟨A, cap, rfl, hcap, hmax⟩ := hl.val
  clear hl hcap hmax
  go_enter Try.func7, Try.ntmps7
  go_upto_region 2 with (go_at_call 10; refine (shown_at _).mono ?_; rintro e w1 ⟨rfl, hE1⟩; have H1 := Lib.hid hE1; clear hE1)
  go_upto_region 3 with (go_at_call 23; refine (cut_at _ _ l (HL.out.ext H1.out)).mono ?_; rintro e w2 ⟨fv, rfl, hown, hE2, hblk⟩; obtain ⟨fA, fcap, rfl, hfc⟩ := hown.val; have HF := Lib.hid hown; have H2 := Lib.hid hE2; clear hown hE2 hblk hfc)
  have hL80 : (cutL l).length ≤ 80 := cutL_len l
  have HL2 := Lib.hid (HF.out.sl Ms.len)
  have HE2 := Lib.hid (H1.out.trans H2.out)
  clear HF HL H1 H2
  generalize cutL l = L at *
  by_cases hn : 1 ≤ n ∧ n ≤ 64
  · obtain ⟨hn1, hn2⟩ := hn
    obtain ⟨N, rfl⟩ : ∃ N : Nat, n = N := ⟨n.toNat, by omega⟩
    have t1 : decide ((N : Int) < 1) = false := by simp; omega
    have t2 : decide (64 < (N : Int)) = false := by simp; omega
    have t3 : decide (N < 1) = false := by simp; omega
    have t4 : decide (64 < N) = false := by simp; omega
    go_upto_region 6 with (go_at_call 11; refine (new_at _).mono ?_; rintro e w3 ⟨b, mw, md, rfl, hM, hE, hf⟩; have HI := Lib.hid (PoolI.new hM hE hf); clear hM hE hf)
    clear t1 t2 t3 t4
    go_wp2
    go_loopw [7] (fun q wr => ∃ (k : Nat), k ≤ L.length ∧ q = .int .i64 k ∧ Hid (PoolI w2 b mw md (stP L k) wr)) (fun q _ => L.length - (intOf q).toNat)
    case atStart => exact ⟨0, Nat.zero_le _, rfl, by rw [stP_zero]; exact HI⟩
    case round =>
      obtain ⟨k, hk, rfl, hI⟩ := hrel
      by_cases hlt : k < L.length
      · obtain ⟨jb, joff, rfl, hjbl, j0, j1, j2⟩ := Sl.at3 (HL2.out.ext hI.out.e) hlt
        have hst := stP_succ L hlt
        generalize L[k] = m at *
        obtain ⟨σ, hσ⟩ : ∃ σ, stP L k = σ := ⟨_, rfl⟩
        rw [hσ] at hI hst
        have Hst := Lib.hid hst
        have hwk : IntKind.i64.wrap ((k : Int) + 1) = (k : Int) + 1 := IntWalk.i64_in _ ⟨by omega, by omega⟩
        clear hσ hst
        go_upto_region 9 with fail
        refine wp_region_line [(0,0),(1,0),(2,0),(3,0),(4,1),(5,3)] (by kernel_rfl) (by kernel_rfl) (Ext wr) (fun _ _ h k => h.trans k) (Ext.refl _) ?_
        iterate 4
          first
            | refine Fx.skip rfl rfl (by simp only [List.set_cons_zero, List.set_cons_succ]; rfl) ?_
            | (with_reducible refine Fx.lab0 ?_
               first
                 | refine Fx.moveT rfl rfl rfl (by simp only [List.set_cons_zero, List.set_cons_succ]; rfl) ?_
                 | refine Fx.assignT rfl rfl rfl (by simp only [List.set_cons_zero, List.set_cons_succ]; rfl) ?_
                 | refine Fx.pure_ rfl rfl (fun _ => by go_simp; first | done | rfl) (by simp only [List.set_cons_zero, List.set_cons_succ]; rfl) ?_)
            | (with_reducible refine Fx.lab1 ?_
               refine Fx.look rfl rfl (fun w' hC => by obtain ⟨hc, hf, hl⟩ := Ext.cells hC; go_simp; rfl) (by simp only [List.set_cons_zero, List.set_cons_succ]; rfl) ?_)
        refine Fx.look rfl rfl (op_load_Ms' (m := m) hjbl j0 j1 j2 rfl) (by simp only [List.set_cons_zero, List.set_cons_succ]; rfl) ?_
        refine Fx.eff (fun _ w' => PoolI w2 b mw md (addS σ m) w') (fun _ _ _ h k => h.ext' k) rfl rfl (fun w' hC => stepAt_mono (stepAt_add hI.out m hC (by first | (go_simp; done) | (go_simp; rfl))) (fun _ _ hh => hh.2.1)) (fun u => ?_)
        simp only [List.set_cons_zero, List.set_cons_succ]
        refine Fx.done (fun w5 hC => ?_)
        have Hw5 := Lib.hid hC
        clear hC j0 j1 j2 hjbl
        go_wp2
        go_roundw
        case rel => exact ⟨k + 1, by omega, by go_num, by rw [Hst.out]; exact Hw5⟩
        case measure => simp [intOf]; omega
      · obtain ⟨σ, hσ⟩ : ∃ σ, stP L k = σ := ⟨_, rfl⟩
        rw [hσ] at hI
        have hpl : (pend σ).length ≤ 1000 := by rw [pend_len]; exact hI.out.ok.len
        have hrise := hI.out.ok.rise
        have hbL : batchL σ (N : Int) = (pend σ).take N := by unfold batchL; rw [if_pos ⟨hn1, hn2⟩, Int.toNat_natCast]
        have hbE : batchE (N : Int) = 0 := by unfold batchE; rw [if_pos ⟨hn1, hn2⟩]
        obtain ⟨Q, hQ⟩ : ∃ Q, pend σ = Q := ⟨_, rfl⟩
        rw [hQ] at hpl hrise hbL
        obtain ⟨bl, hbl⟩ : ∃ bl, min N Q.length = bl := ⟨_, rfl⟩
        have hbl2 : (Q.take N).length = bl := by rw [List.length_take]; exact hbl
        have htk : Q.take bl = Q.take N := by rw [← hbl, Nat.min_comm, Nat.min_comm]; exact (List.take_eq_take_min ..).symm
        have HQ := Lib.hid hQ
        have HPl := Lib.hid hpl
        have HRise := Lib.hid hrise
        have HbL := Lib.hid hbL
        have HbE := Lib.hid hbE
        have Hbl := Lib.hid hbl
        have Hbl2 := Lib.hid hbl2
        have Htk := Lib.hid htk
        clear hσ hpl hrise hbL hbE hQ hbl hbl2 htk
        go_upto_region 11 with (go_at_call 15; refine (batch_at hI.out.p hI.out.ok (N : Int)).mono ?_; rintro e w5 ⟨nv, h0, h1, h2, h3⟩; rw [HbE.out] at h0; subst h0; rw [HbL.out] at h1; obtain ⟨bA, bcap, hnv, -⟩ := h1.val; rw [Hbl2.out] at hnv; subst hnv; have HB := Lib.hid h1; have HI5 := Lib.hid (hI.out.ext' h2); clear h1 h2 h3)
        go_upto_region 12 with (go_at_call 20; refine (pend_at HI5.out.p HI5.out.ok).mono ?_; rw [HQ.out]; rintro e w6 ⟨qv, rfl, h1, h2, h3⟩; obtain ⟨qA, qcap, rfl, hqc, hqm⟩ := h1.val; have HQ6 := Lib.hid (h1.sl Ms.len); have HI6 := Lib.hid (HI5.out.ext' h2); have HB6 := Lib.hid (HB.out.ext h2); clear h1 h2 h3)
        clear hI HI5 HB hlt hk
        go_wp2
        generalize wr = wA at *
        go_loopw [11] (fun q wx => ∃ (i : Nat), 1 ≤ i ∧ (i ≤ Q.length ∨ i = 1) ∧ q = .int .i64 i ∧ Hid (Ext w6 wx)) (fun q _ => Q.length - (intOf q).toNat)
        case atStart => exact ⟨1, Nat.le_refl _, .inr rfl, rfl, Lib.hid (Ext.refl _)⟩
        case round =>
          obtain ⟨i, hi1, hi, rfl, hE⟩ := hrel
          have hp1 := HPl.out
          by_cases hlt : i < Q.length
          · obtain ⟨p, hp⟩ : ∃ p, i = p + 1 := ⟨i - 1, by omega⟩
            have hpl : p < Q.length := by omega
            obtain ⟨jb, joff, rfl, hjbl, j0, j1, -⟩ := Sl.at3 (HQ6.out.ext hE.out) hlt
            obtain ⟨gb, goff, he, -, g0, g1, -⟩ := Sl.at3 (HQ6.out.ext hE.out) hpl
            injection he with he
            injection he with he1 he2
            subst he1; subst he2
            have hr := rise_at HRise.out (p := p) (i := i) (by omega) hlt
            obtain ⟨x, hx⟩ : ∃ x, Q[i] = x := ⟨_, rfl⟩
            obtain ⟨y, hy⟩ : ∃ y, Q[p] = y := ⟨_, rfl⟩
            rw [hx] at j0 j1 hr
            rw [hy] at g0 g1 hr
            have hwi : IntKind.i64.wrap ((i : Int) + 1) = (i : Int) + 1 := IntWalk.i64_in _ ⟨by omega, by omega⟩
            have hwp : IntKind.i64.wrap ((i : Int) - 1) = (p : Int) := by rw [hp]; push_cast; rw [Int.add_sub_cancel]; exact IntWalk.i64_in _ ⟨by omega, by omega⟩
            clear hx hy hp
            have u1 : decide (x.f < y.f) = false := by simp; omega
            by_cases hfe : x.f = y.f
            · have u2 : (x.f == y.f) = true := by simp [hfe]
              have u3 : decide (x.c ≤ y.c) = false := by simp; omega
              clear hr hfe
              go_upto_region 15 with fail
              refine wp_region_plan [(0,0),(1,0),(2,0),(3,0),(4,0),(5,1),(6,0),(7,0),(8,0),(9,0),(10,0),(11,0),(12,1),(13,0),(14,0),(15,0),(16,0),(17,0),(18,0),(19,0),(20,1),(21,0),(22,0),(23,0),(24,0),(25,0),(26,0),(27,1),(28,0),(29,0),(30,0),(31,0),(32,0),(33,0),(34,0),(35,1),(36,0),(37,0),(38,0),(39,0),(40,0),(41,0),(42,1),(43,0),(44,0),(45,0)] (by kernel_rfl) (by kernel_rfl) (by kernel_rfl) (Ext wr) (fun _ _ h k => h.trans k) (Ext.drawn _ _) ?_
              iterate 46
                first
                  | refine Fx.skip rfl rfl (by simp only [List.set_cons_zero, List.set_cons_succ]; rfl) ?_
                  | (with_reducible refine Fx.lab0 ?_
                     first
                       | refine Fx.moveT rfl rfl rfl (by simp only [List.set_cons_zero, List.set_cons_succ]; rfl) ?_
                       | refine Fx.assignT rfl rfl rfl (by simp only [List.set_cons_zero, List.set_cons_succ]; rfl) ?_
                       | refine Fx.pure_ rfl rfl (fun _ => by go_simp; first | done | rfl) (by simp only [List.set_cons_zero, List.set_cons_succ]; rfl) ?_)
                  | (with_reducible refine Fx.lab1 ?_
                     refine Fx.look rfl rfl (fun w' hC => by obtain ⟨hc, hf, hl⟩ := Ext.cells hC; go_simp; rfl) (by simp only [List.set_cons_zero, List.set_cons_succ]; rfl) ?_)
              refine Fx.done (fun w7 hC => ?_)
              have HC := Lib.hid (hE.out.trans hC)
              clear hC j0 j1 g0 g1
              go_wp2
              go_roundw
              case rel => exact ⟨i + 1, by omega, .inl (by omega), by go_num, HC⟩
              case measure => simp [intOf]; omega
            · have u2 : (x.f == y.f) = false := by simp [hfe]
              clear hr hfe
              go_upto_region 15 with fail
              refine wp_region_plan [(0,0),(1,0),(2,0),(3,0),(4,0),(5,1),(6,0),(7,0),(8,0),(9,0),(10,0),(11,0),(12,1),(13,0),(14,0),(15,0),(16,0),(17,0),(18,0),(19,0),(20,1),(21,0),(22,0),(23,0),(24,0),(25,0),(26,0),(27,1),(28,0),(29,0),(30,0),(31,0),(32,0),(33,0),(34,0),(35,1),(36,0),(37,0),(38,0),(39,0),(40,0),(41,0),(42,1),(43,0),(44,0),(45,0)] (by kernel_rfl) (by kernel_rfl) (by kernel_rfl) (Ext wr) (fun _ _ h k => h.trans k) (Ext.drawn _ _) ?_
              iterate 46
                first
                  | refine Fx.skip rfl rfl (by simp only [List.set_cons_zero, List.set_cons_succ]; rfl) ?_
                  | (with_reducible refine Fx.lab0 ?_
                     first
                       | refine Fx.moveT rfl rfl rfl (by simp only [List.set_cons_zero, List.set_cons_succ]; rfl) ?_
                       | refine Fx.assignT rfl rfl rfl (by simp only [List.set_cons_zero, List.set_cons_succ]; rfl) ?_
                       | refine Fx.pure_ rfl rfl (fun _ => by go_simp; first | done | rfl) (by simp only [List.set_cons_zero, List.set_cons_succ]; rfl) ?_)
                  | (with_reducible refine Fx.lab1 ?_
                     refine Fx.look rfl rfl (fun w' hC => by obtain ⟨hc, hf, hl⟩ := Ext.cells hC; go_simp; rfl) (by simp only [List.set_cons_zero, List.set_cons_succ]; rfl) ?_)
              refine Fx.done (fun w7 hC => ?_)
              have HC := Lib.hid (hE.out.trans hC)
              clear hC j0 j1 g0 g1
              go_wp2
              go_roundw
              case rel => exact ⟨i + 1, by omega, .inl (by omega), by go_num, HC⟩
              case measure => simp [intOf]; omega
          · have hmi : min (N : Int) (Q.length : Int) = (bl : Int) := by have := Hbl.out; omega
            have hble : bl ≤ Q.length := by have := Hbl.out; omega
            have hblc : bl ≤ qcap := by omega
            have hblI : (bl : Int) ≤ (qcap : Int) := by omega
            have HS := Lib.hid ((HQ6.out.ext hE.out).take bl hble)
            have HBs := Lib.hid ((HB6.out.ext hE.out).sl Ms.len)
            rw [Htk.out] at HS
            have hln : (Q.take N).length ≤ 1073741824 := by rw [List.length_take]; omega
            have HLn := Lib.hid hln
            clear hln
            go_upto_region 17 with fail
            refine wp_region_line [(0,0),(1,0),(2,0),(3,0),(4,0),(5,0),(6,0),(7,0),(8,0),(9,0),(10,0),(11,0),(12,0),(13,0),(14,0),(15,0),(16,0),(17,0),(18,0),(19,0),(20,1),(21,0),(22,0)] (by kernel_rfl) (by kernel_rfl) (Ext wr) (fun _ _ h k => h.trans k) (Ext.refl _) ?_
            iterate 20
              first
                | refine Fx.skip rfl rfl (by simp only [List.set_cons_zero, List.set_cons_succ]; rfl) ?_
                | (with_reducible refine Fx.lab0 ?_
                   first
                     | refine Fx.moveT rfl rfl rfl (by simp only [List.set_cons_zero, List.set_cons_succ]; rfl) ?_
                     | refine Fx.assignT rfl rfl rfl (by simp only [List.set_cons_zero, List.set_cons_succ]; rfl) ?_
                     | refine Fx.pure_ rfl rfl (fun _ => by go_simp; first | done | rfl) (by simp only [List.set_cons_zero, List.set_cons_succ]; rfl) ?_)
                | (with_reducible refine Fx.lab1 ?_
                   refine Fx.look rfl rfl (fun w' hC => by obtain ⟨hc, hf, hl⟩ := Ext.cells hC; go_simp; rfl) (by simp only [List.set_cons_zero, List.set_cons_succ]; rfl) ?_)
            refine Fx.call1 (v := .bool true) (args := #[.slice bA bl bcap, .slice qA bl qcap]) rfl rfl (fun _ => by first | (go_simp; done) | (go_simp; rfl)) (fun w' hC => (same_ref _ _ _ _ w' (HBs.out.ext hC) (HS.out.ext hC) HLn.out).mono (fun e w'' hh => by rw [show sameB (Q.take N) (Q.take N) = true by simp [sameB]] at hh; exact hh)) (by simp only [List.set_cons_zero, List.set_cons_succ]; rfl) ?_
            iterate 2
              first
                | refine Fx.skip rfl rfl (by simp only [List.set_cons_zero, List.set_cons_succ]; rfl) ?_
                | (with_reducible refine Fx.lab0 ?_
                   first
                     | refine Fx.moveT rfl rfl rfl (by simp only [List.set_cons_zero, List.set_cons_succ]; rfl) ?_
                     | refine Fx.assignT rfl rfl rfl (by simp only [List.set_cons_zero, List.set_cons_succ]; rfl) ?_
                     | refine Fx.pure_ rfl rfl (fun _ => by go_simp; first | done | rfl) (by simp only [List.set_cons_zero, List.set_cons_succ]; rfl) ?_)
                | (with_reducible refine Fx.lab1 ?_
                   refine Fx.look rfl rfl (fun w' hC => by obtain ⟨hc, hf, hl⟩ := Ext.cells hC; go_simp; rfl) (by simp only [List.set_cons_zero, List.set_cons_succ]; rfl) ?_)
            refine Fx.done (fun w8 hC => ?_)
            have HC := Lib.hid hC
            clear hC
            go_wp2
            go_ret
            exact ⟨rfl, HE2.out.trans (HI6.out.e.trans (hE.out.trans HC.out))⟩
  · by_cases h1 : n < 1
    · clear hn
      go_wp2
      go_ret
      exact ⟨rfl, HE2.out⟩
    · have h2 : 64 < n := by omega
      clear hn
      go_wp2
      go_ret
      exact ⟨rfl, HE2.out⟩
end Go.Proofs.Ytkkcdoajdhbofaa
