/-
  rostrumlaw11.SequenceAll: what it computes.
-/
import Derived.Test.YtokljdkeegdniaaPlainS
namespace Go.Proofs.Ytokljdkeegdniaa
open Go.RowKit
attribute [local go_sem] Oper.semAt_some

set_option maxRecDepth 100000 in
set_option maxHeartbeats 6400000 in
theorem all_law (w : World) (n0 turn : Int) (bk : Bool) : Calls Try.prog 6 #[.int .i64 n0, .int .i64 turn, .bool bk] w (LawP w) := by
  by_cases hr : n0 < 1 ∨ 20 < n0
  · go_enter Try.func6, Try.ntmps6
    by_cases h1 : n0 < 1
    · have hd : decide (n0 < 1) = true := by simpa using h1
      clear hr h1
      go_wp2_with (go_at_call 9; refine (shown_at _).mono ?_; rintro e wb ⟨rfl, hE⟩; have Hb := Lib.hid hE; clear hE)
      go_ret
      exact ⟨rfl, Hb.out⟩
    · have hd : decide (n0 < 1) = false := by simpa using h1
      have hd2 : decide (20 < n0) = true := by apply decide_eq_true; omega
      clear hr h1
      go_wp2_with (go_at_call 9; refine (shown_at _).mono ?_; rintro e wb ⟨rfl, hE⟩; have Hb := Lib.hid hE; clear hE)
      go_ret
      exact ⟨rfl, Hb.out⟩
  · obtain ⟨n, rfl⟩ : ∃ n : Nat, n0 = n := ⟨n0.toNat, by omega⟩
    have hn1 : 1 ≤ n := by omega
    have hn : n ≤ 20 := by omega
    have hd : decide ((n : Int) < 1) = false := by apply decide_eq_false; omega
    have hd2 : decide (20 < (n : Int)) = false := by apply decide_eq_false; omega
    clear hr
    have hT0 : 0 ≤ IntKind.u64.wrap turn := by rw [IntKind.wrap_u64]; omega
    have hT1 := Int.tmod_nonneg 20 hT0
    obtain ⟨T, hT⟩ : ∃ T : Nat, (IntKind.u64.wrap turn).tmod 20 = T := ⟨((IntKind.u64.wrap turn).tmod 20).toNat, by omega⟩
    have hT20 : T < 20 := by have := Int.tmod_lt_of_pos (IntKind.u64.wrap turn) (show (0 : Int) < 20 by omega); omega
    have hwT : IntKind.i64.wrap (T : Int) = T := IntWalk.i64_in _ ⟨by omega, by omega⟩
    obtain ⟨ux, hux⟩ : ∃ ux, IntKind.u64.wrap turn = ux := ⟨_, rfl⟩
    rw [hux] at hT hT0 hT1
    clear hT0 hT1
    go_enter Try.func6, Try.ntmps6
    go_upto_region 5 with (first
      | (go_at_call 9; refine (shown_at _).mono ?_; rintro e wb ⟨rfl, hE⟩; have Hb := Lib.hid hE; clear hE)
      | (go_at_call 21; refine (both_at _ n hn).mono ?_; rintro e wc ⟨v1, v2, rfl, hL1, hL2, hE⟩; have HL1 := Lib.hid hL1; have HL2 := Lib.hid hL2; have HEc := Lib.hid (Hb.out.trans hE); clear hL1 hL2 hE))
    obtain ⟨A1, cap1, hv1, -⟩ := HL1.out.val
    obtain ⟨A2, cap2, hv2, -⟩ := HL2.out.val
    rw [srcL_len] at hv1 hv2
    subst hv1
    subst hv2
    obtain ⟨jb, joff, rfl⟩ := src_addr HL1.out hn1
    obtain ⟨ib, ioff, rfl⟩ := src_addr HL2.out hn1
    clear Hb
    go_wp2_with (go_at_call 10; refine (newF_at _ _).mono ?_; rintro e w5 ⟨c, mw, mb, rfl, hM, hE, hf⟩; have HF := Lib.hid (show FwI wc c mw mb (fw0 1) w5 from ⟨hM, hf, hE⟩); clear hM hE hf)
    go_loopw [11, 12] (fun tk q wr => ∃ (k : Nat) (σ : FwSt) (out : List Ms), q = .int .i64 k ∧ tk = .int .i64 out.length ∧ k ≤ n ∧ Hid (FwI wc c mw mb σ wr) ∧ Hid (AllI n k (turnK n T bk) σ out)) (fun _ q _ => n - (intOf q).toNat)
    case atStart => exact ⟨0, _, [], rfl, rfl, Nat.zero_le _, HF, Lib.hid (AllI.zero n _)⟩
    case round =>
      obtain ⟨k, σ, out, rfl, rfl, hk, hF, hI⟩ := hrel
      by_cases hlt : k < n
      · obtain ⟨kk, hkk⟩ : ∃ kk : Nat, (k + T) % n = kk := ⟨_, rfl⟩
        have hkkl : kk < n := by rw [← hkk]; exact Nat.mod_lt _ (by omega)
        obtain ⟨kz, hkz⟩ : ∃ kz : Nat, turnK n T bk k = kz := ⟨_, rfl⟩
        have hkzl : kz < n := by rw [← hkz]; exact turnK_lt (by omega)
        have hkzI : kz = if bk then n - 1 - kk else kk := by rw [← hkz, ← hkk]; rfl
        obtain ⟨s1, s2, s3, s4⟩ := hI.out.step (by omega) (by rw [hkz]; exact hkzl) hn
        rw [hkz] at s1 s2 s3 s4
        obtain ⟨l1, l2, l3, l4⟩ := hI.out.wl (by omega)
        obtain ⟨o, ho⟩ : ∃ o, out.length = o := ⟨_, rfl⟩
        obtain ⟨τ, hτ⟩ : ∃ τ, recvS σ (srcX 1 sM kz) = τ := ⟨_, rfl⟩
        obtain ⟨ρ, hρ⟩ : ∃ ρ, recvS τ (srcX 2 tM kz) = ρ := ⟨_, rfl⟩
        obtain ⟨g, hg⟩ : ∃ g, recvL σ (srcX 1 sM kz) = g := ⟨_, rfl⟩
        rw [hτ] at s2 s3 s4
        rw [hρ, hg] at s4
        obtain ⟨gl, hgl⟩ : ∃ gl, g.length = gl := ⟨_, rfl⟩
        have l5 := s4.wl (by omega)
        have h20 : o + gl ≤ 20 := by have := l5.2.2.2; rw [List.length_append] at this; omega
        have hlτ : τ.wt.length ≤ 100 ∧ τ.bf.length ≤ 100 := by
          have := recv_len σ (srcX 1 sM kz)
          rw [hτ] at this
          omega
        have S1 := Lib.hid s1
        have S2 := Lib.hid s2
        have S3 := Lib.hid s3
        have S4 := Lib.hid s4
        have HLσ : Hid (σ.wt.length ≤ 999999 ∧ σ.bf.length ≤ 999999) := Lib.hid ⟨by omega, by omega⟩
        have HLτ : Hid (τ.wt.length ≤ 999999 ∧ τ.bf.length ≤ 999999) := Lib.hid ⟨by omega, by omega⟩
        have Hτ := Lib.hid hτ
        have Hρ := Lib.hid hρ
        have Hg := Lib.hid hg
        have Hgl := Lib.hid hgl
        have Ho := Lib.hid ho
        have hwk : IntKind.i64.wrap ((k : Int) + 1) = (k : Int) + 1 := IntWalk.i64_in _ ⟨by omega, by omega⟩
        have hwkT : IntKind.i64.wrap ((k : Int) + (T : Int)) = (k : Int) + (T : Int) := IntWalk.i64_in _ ⟨by omega, by omega⟩
        have htm : ((k : Int) + (T : Int)).tmod (n : Int) = (kk : Int) := by rw [← hkk, Int.tmod_eq_emod_of_nonneg (by omega)]; push_cast; rfl
        have hNz : ¬ (n : Int) = 0 := by omega
        have hNz2 : ((n : Int) == 0) = false := beq_false_of_ne hNz
        have hNz3 : ¬ n = 0 := by omega
        have hwkk : IntKind.i64.wrap (kk : Int) = (kk : Int) := IntWalk.i64_in _ ⟨by omega, by omega⟩
        have hw1 : IntKind.i64.wrap ((n : Int) - 1) = (n : Int) - 1 := IntWalk.i64_in _ ⟨by omega, by omega⟩
        have hw2 : IntKind.i64.wrap ((n : Int) - 1 - (kk : Int)) = (n : Int) - 1 - (kk : Int) := IntWalk.i64_in _ ⟨by omega, by omega⟩
        have hwo : IntKind.i64.wrap ((o : Int) + (gl : Int)) = (o : Int) + (gl : Int) := IntWalk.i64_in _ ⟨by omega, by omega⟩
        have hkzC : (if bk then (n : Int) - 1 - (kk : Int) else (kk : Int)) = (kz : Int) := by rw [hkzI]; cases bk <;> simp <;> omega
        rw [ho]
        have HkzC := Lib.hid hkzC
        obtain ⟨jc, jl⟩ := src_cell HL1.out hF.out.e hkzl
        clear s1 s2 s3 s4 l1 l2 l3 l4 l5 hlτ hτ hρ hg hgl hkz hkzI ho hI hkk hkzC
        cases bk
        all_goals
          have hkzI := HkzC.out
          simp only [Bool.false_eq_true, if_true, if_false] at hkzI
          go_upto_region 15 with fail
          try rw [hkzI]
          refine wp_region_line [(0,0),(1,0),(2,0),(3,0),(4,1),(5,3),(6,0),(7,0),(8,0),(9,0),(10,0)] (by kernel_rfl) (by kernel_rfl) (Ext wr) (fun _ _ h k => h.trans k) (Ext.refl _) ?_
          iterate 4
            first
              | refine Fx.skip rfl rfl (by simp only [List.set_cons_zero, List.set_cons_succ]; rfl) ?_
              | (with_reducible refine Fx.lab0 ?_
                 first
                   | refine Fx.moveT rfl rfl rfl (by simp only [List.set_cons_zero, List.set_cons_succ]; rfl) ?_
                   | refine Fx.assignT rfl rfl rfl (by simp only [List.set_cons_zero, List.set_cons_succ]; rfl) ?_
                   | refine Fx.pure_ rfl rfl (fun _ => by go_simp; first | done | rfl) (by simp only [List.set_cons_zero, List.set_cons_succ]; rfl) ?_)
              | (with_reducible refine Fx.lab1 ?_
                 refine Fx.look rfl rfl (fun w' hC => by obtain ⟨hc, hf, hl⟩ := Ext.cells hC; go_simp; rfl) (by simp only [List.set_cons_zero, List.set_cons_succ]; rfl) ?_)
          refine Fx.look rfl rfl (op_load_Nb' (m := srcX 1 sM kz) jl jc rfl) (by simp only [List.set_cons_zero, List.set_cons_succ]; rfl) ?_
          refine Fx.effBy (β := Option Addr × Nat) (fun p => .tuple #[.slice p.1 gl p.2, .int .i64 0]) (fun p w' => FwI wc c mw mb τ w') ⟨(none, 0)⟩ (fun _ _ _ h k => h.ext' k) rfl rfl (fun w' hC => ?_) (fun p => ?_)
          · unfold stepAt
            rw [show (execOp _ _).run Try.prog w' = .ok (.enter 14 #[.pointer (some ⟨c, 0, none⟩), (srcX 1 sM kz).val]) w' from by first | (go_simp; done) | (go_simp; rfl)]
            refine (recv_any (hF.out.p.ext hC) HLσ.out.1 HLσ.out.2 (srcX 1 sM kz)).mono (fun e w'' hh => ?_)
            obtain ⟨nv, rfl, h1, h2, h3, h4⟩ := hh
            rw [Hg.out] at h1
            rw [Hτ.out] at h2
            rw [S1.out]
            obtain ⟨A, cap, rfl, -⟩ := h1.val
            rw [Hgl.out]
            exact ⟨_, rfl, (A, cap), rfl, (hF.out.ext' hC).step h2 h3⟩
          simp only [List.set_cons_zero, List.set_cons_succ]
          iterate 5
            first
              | refine Fx.skip rfl rfl (by simp only [List.set_cons_zero, List.set_cons_succ]; rfl) ?_
              | (with_reducible refine Fx.lab0 ?_
                 first
                   | refine Fx.moveT rfl rfl rfl (by simp only [List.set_cons_zero, List.set_cons_succ]; rfl) ?_
                   | refine Fx.assignT rfl rfl rfl (by simp only [List.set_cons_zero, List.set_cons_succ]; rfl) ?_
                   | refine Fx.pure_ rfl rfl (fun _ => by go_simp; first | done | rfl) (by simp only [List.set_cons_zero, List.set_cons_succ]; rfl) ?_)
              | (with_reducible refine Fx.lab1 ?_
                 refine Fx.look rfl rfl (fun w' hC => by obtain ⟨hc, hf, hl⟩ := Ext.cells hC; go_simp; rfl) (by simp only [List.set_cons_zero, List.set_cons_succ]; rfl) ?_)
          refine Fx.done (fun w6 hC => ?_)
          have HF6 := Lib.hid hC
          clear hC jc jl
          obtain ⟨jc, jl⟩ := src_cell HL2.out HF6.out.e hkzl
          go_upto_region 16 with fail
          refine wp_region_line [(0,0),(1,0),(2,0),(3,0),(4,1),(5,3),(6,0),(7,0),(8,0),(9,0),(10,0)] (by kernel_rfl) (by kernel_rfl) (Ext w6) (fun _ _ h k => h.trans k) (Ext.refl _) ?_
          iterate 4
            first
              | refine Fx.skip rfl rfl (by simp only [List.set_cons_zero, List.set_cons_succ]; rfl) ?_
              | (with_reducible refine Fx.lab0 ?_
                 first
                   | refine Fx.moveT rfl rfl rfl (by simp only [List.set_cons_zero, List.set_cons_succ]; rfl) ?_
                   | refine Fx.assignT rfl rfl rfl (by simp only [List.set_cons_zero, List.set_cons_succ]; rfl) ?_
                   | refine Fx.pure_ rfl rfl (fun _ => by go_simp; first | done | rfl) (by simp only [List.set_cons_zero, List.set_cons_succ]; rfl) ?_)
              | (with_reducible refine Fx.lab1 ?_
                 refine Fx.look rfl rfl (fun w' hC => by obtain ⟨hc, hf, hl⟩ := Ext.cells hC; go_simp; rfl) (by simp only [List.set_cons_zero, List.set_cons_succ]; rfl) ?_)
          refine Fx.look rfl rfl (op_load_Nb' (m := srcX 2 tM kz) jl jc rfl) (by simp only [List.set_cons_zero, List.set_cons_succ]; rfl) ?_
          refine Fx.effBy (β := Option Addr × Nat) (fun p => .tuple #[.slice p.1 0 p.2, .int .i64 0]) (fun p w' => FwI wc c mw mb ρ w') ⟨(none, 0)⟩ (fun _ _ _ h k => h.ext' k) rfl rfl (fun w' hC => ?_) (fun p2 => ?_)
          · unfold stepAt
            rw [show (execOp _ _).run Try.prog w' = .ok (.enter 14 #[.pointer (some ⟨c, 0, none⟩), (srcX 2 tM kz).val]) w' from by first | (go_simp; done) | (go_simp; rfl)]
            refine (recv_any (HF6.out.p.ext hC) HLτ.out.1 HLτ.out.2 (srcX 2 tM kz)).mono (fun e w'' hh => ?_)
            obtain ⟨nv, rfl, h1, h2, h3, h4⟩ := hh
            rw [S3.out] at h1
            rw [Hρ.out] at h2
            rw [S2.out]
            obtain ⟨A, cap, rfl, -⟩ := h1.val
            exact ⟨_, rfl, (A, cap), rfl, (HF6.out.ext' hC).step h2 h3⟩
          simp only [List.set_cons_zero, List.set_cons_succ]
          iterate 5
            first
              | refine Fx.skip rfl rfl (by simp only [List.set_cons_zero, List.set_cons_succ]; rfl) ?_
              | (with_reducible refine Fx.lab0 ?_
                 first
                   | refine Fx.moveT rfl rfl rfl (by simp only [List.set_cons_zero, List.set_cons_succ]; rfl) ?_
                   | refine Fx.assignT rfl rfl rfl (by simp only [List.set_cons_zero, List.set_cons_succ]; rfl) ?_
                   | refine Fx.pure_ rfl rfl (fun _ => by go_simp; first | done | rfl) (by simp only [List.set_cons_zero, List.set_cons_succ]; rfl) ?_)
              | (with_reducible refine Fx.lab1 ?_
                 refine Fx.look rfl rfl (fun w' hC => by obtain ⟨hc, hf, hl⟩ := Ext.cells hC; go_simp; rfl) (by simp only [List.set_cons_zero, List.set_cons_succ]; rfl) ?_)
          refine Fx.done (fun w7 hC => ?_)
          have HF7 := Lib.hid hC
          clear hC jc jl
          go_wp2
          go_roundw
          case rel => exact ⟨k + 1, ρ, out ++ g, by go_num, by rw [List.length_append, Ho.out, Hgl.out]; push_cast; rfl, by omega, HF7, S4⟩
          case measure => simp [intOf]; omega
      · have hkn : k = n := by omega
        subst hkn
        obtain ⟨g1, g2, g3⟩ := hI.out.done (turnK_onto bk (by omega) hT20)
        obtain ⟨l1, l2, l3, l4⟩ := hI.out.wl hn
        have G2 := Lib.hid g2
        have G3 := Lib.hid g3
        have HL : Hid ((σ.bf.map (·.1)).Nodup ∧ σ.bf.length ≤ 999999) := Lib.hid ⟨l3, by omega⟩
        rw [g1]
        clear g1 g2 g3 l1 l2 l3 l4 hI
        go_upto_region 20 with fail
        refine wp_region_line [(0,0),(1,3),(2,0),(3,0),(4,0),(5,0),(6,0)] (by kernel_rfl) (by kernel_rfl) (Ext wr) (fun _ _ h k => h.trans k) (Ext.refl _) ?_
        first
          | refine Fx.skip rfl rfl (by simp only [List.set_cons_zero, List.set_cons_succ]; rfl) ?_
          | (with_reducible refine Fx.lab0 ?_
             first
               | refine Fx.moveT rfl rfl rfl (by simp only [List.set_cons_zero, List.set_cons_succ]; rfl) ?_
               | refine Fx.assignT rfl rfl rfl (by simp only [List.set_cons_zero, List.set_cons_succ]; rfl) ?_
               | refine Fx.pure_ rfl rfl (fun _ => by go_simp; first | done | rfl) (by simp only [List.set_cons_zero, List.set_cons_succ]; rfl) ?_)
          | (with_reducible refine Fx.lab1 ?_
             refine Fx.look rfl rfl (fun w' hC => by obtain ⟨hc, hf, hl⟩ := Ext.cells hC; go_simp; rfl) (by simp only [List.set_cons_zero, List.set_cons_succ]; rfl) ?_)
        refine Fx.effBy (β := Option Addr × Nat) (fun p => .tuple #[.slice p.1 k p.2, .int .i64 0]) (fun p w' => Ext wc w') ⟨(none, 0)⟩ (fun _ _ _ h k => h.trans k) rfl rfl (fun w' hC => ?_) (fun p => ?_)
        · unfold stepAt
          rw [show (execOp _ _).run Try.prog w' = .ok (.enter 12 #[.pointer (some ⟨c, 0, none⟩), .int .u32 2]) w' from by first | (go_simp; done) | (go_simp; rfl)]
          refine (move_any (hF.out.p.ext hC) HL.out.1 HL.out.2 2).mono (fun e w'' hh => ?_)
          obtain ⟨nv, rfl, h1, h2, h3, h4⟩ := hh
          rw [G2.out]
          obtain ⟨A, cap, rfl, -⟩ := h1.val
          rw [G3.out]
          exact ⟨_, rfl, (A, cap), rfl, ((hF.out.ext' hC).step h2 h3).e⟩
        simp only [List.set_cons_zero, List.set_cons_succ]
        iterate 5
          first
            | refine Fx.skip rfl rfl (by simp only [List.set_cons_zero, List.set_cons_succ]; rfl) ?_
            | (with_reducible refine Fx.lab0 ?_
               first
                 | refine Fx.moveT rfl rfl rfl (by simp only [List.set_cons_zero, List.set_cons_succ]; rfl) ?_
                 | refine Fx.assignT rfl rfl rfl (by simp only [List.set_cons_zero, List.set_cons_succ]; rfl) ?_
                 | refine Fx.pure_ rfl rfl (fun _ => by go_simp; first | done | rfl) (by simp only [List.set_cons_zero, List.set_cons_succ]; rfl) ?_)
            | (with_reducible refine Fx.lab1 ?_
               refine Fx.look rfl rfl (fun w' hC => by obtain ⟨hc, hf, hl⟩ := Ext.cells hC; go_simp; rfl) (by simp only [List.set_cons_zero, List.set_cons_succ]; rfl) ?_)
        refine Fx.done (fun w7 hC => ?_)
        have HC := Lib.hid hC
        clear hC
        go_wp2
        go_ret
        exact ⟨by simp, HEc.out.trans HC.out⟩
end Go.Proofs.Ytokljdkeegdniaa
