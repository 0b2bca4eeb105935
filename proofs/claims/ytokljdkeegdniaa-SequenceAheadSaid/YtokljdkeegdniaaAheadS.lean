/-
  rostrumlaw11.SequenceAhead: what it computes.
-/
import Derived.Test.YtokljdkeegdniaaAny
import Derived.Test.YtokljdkeegdniaaAllS
namespace Go.Proofs.Ytokljdkeegdniaa
open Go.RowKit
attribute [local go_sem] Oper.semAt_some

theorem Sl.at1U {w : World} {A : Option Addr} {n cap : Nat} {l : List Int} (h : UL w (.slice A n cap) l) {j : Nat} (hj : j < l.length) :
    ∃ b off, A = some ⟨b, off, none⟩ ∧ b < w.heap.size ∧ w.cell? ⟨b, off + j, none⟩ = some (.int .u32 l[j]) := by
  obtain ⟨A', cap', e, _, _, hc⟩ := h
  injection e with e1 e2 e3
  subst e1
  obtain ⟨b, off, rfl, hlt, hcell⟩ := hc (fun e => by rw [e] at hj; simp at hj)
  have := hcell j _ (List.getElem?_eq_getElem hj) 0 _ rfl
  simp only [Nat.mul_one, Nat.add_zero] at this
  exact ⟨b, off, rfl, hlt, this⟩
def aX (k : Nat) : Nb := ⟨2, k + 1, mMsg 1 (k + 1)⟩
def aB (k : Nat) : List ((Int × Int) × Ms) := (List.range k).map (fun i => kyOf (aX i))
def aS (k : Nat) : FwSt := ⟨1, 1, [], aB (min k 64)⟩
theorem aX_right {k : Nat} (h : k < 70) : badB (aX k) = false := by
  unfold badB
  have : rightB (aX k).m = true := by
    rw [rightB_iff]
    refine ⟨show (0 : Int) ≤ 1 by decide, show (1 : Int) < 16 by decide, ?_, ?_, show (⟨#[109]⟩ : ByteArray).size ≤ 1000 by decide⟩
    · show (1 : Int) ≤ (k : Int) + 1; omega
    · show (k : Int) + 1 ≤ 4294967294; omega
  rw [this]
  have h2 : ¬ (aX k).n < 1 := by show ¬ ((k : Int) + 1 < 1); omega
  simp [h2]
theorem aB_succ (k : Nat) : aB (k + 1) = aB k ++ [kyOf (aX k)] := by unfold aB; rw [List.range_succ, List.map_append]; rfl
theorem aB_none (k : Nat) : kfind (2, (k : Int) + 1) (aB k) = none := by
  rw [kfind_none]
  intro h
  unfold aB at h
  rw [List.map_map] at h
  obtain ⟨i, hi, e⟩ := List.mem_map.1 h
  rw [List.mem_range] at hi
  simp only [Function.comp, kyOf, aX, Prod.mk.injEq] at e
  omega
theorem aB_len (k : Nat) : (aB k).length = k := by simp [aB]
theorem ahead_step {k : Nat} (h : k < 70) : recvS (aS k) (aX k) = aS (k + 1) ∧ recvE (aS k) (aX k) = 0 ∧ recvL (aS k) (aX k) = [] := by
  unfold recvS recvE recvL
  rw [aX_right h]
  simp only [Bool.false_eq_true, if_false]
  have e1 : (aS k).ep = 1 := rfl
  have e2 : (aX k).e = 2 := rfl
  rw [e1, e2, if_neg (by omega), if_pos (by omega), if_neg (by omega), if_neg (by omega)]
  refine ⟨?_, rfl, rfl⟩
  have e3 : (aS k).bf = aB (min k 64) := rfl
  have e4 : (((2 : Int), (k : Int) + 1) : Int × Int) = ((aX k).e, (aX k).n) := rfl
  unfold keepS
  rw [e3, ← e4]
  by_cases hk : k < 64
  · rw [Nat.min_eq_left (by omega), aB_none, if_neg (by simp), aB_len, if_pos hk, kput_new (aB_none k)]
    unfold aS
    rw [Nat.min_eq_left (show k ≤ 64 by omega), Nat.min_eq_left (show k + 1 ≤ 64 by omega), aB_succ]
    rfl
  · have e5 : aS (k + 1) = aS k := by unfold aS; rw [Nat.min_eq_right (show 64 ≤ k + 1 by omega), Nat.min_eq_right (show 64 ≤ k by omega)]
    rw [Nat.min_eq_right (by omega), e5]
    split
    · rfl
    · rw [aB_len, if_neg (by omega)]
theorem aS_ok (k : Nat) : FwOk [] [] (aS k) := by
  refine ⟨EpL.nil 1, EpG.nil 1 1, ?_, ?_, ?_⟩
  · show ((aB _).map _).Nodup
    unfold aB
    rw [List.map_map, List.Nodup, List.pairwise_map]
    refine List.Pairwise.imp ?_ (List.nodup_range (n := min k 64))
    intro i j hij e
    simp only [Function.comp, kyOf, aX, Prod.mk.injEq] at e
    omega
  · intro p hp
    obtain ⟨i, _, rfl⟩ := List.mem_map.1 (show p ∈ (List.range (min k 64)).map _ from hp)
    show (1 : Int) < 2 ∧ (1 : Int) ≤ (i : Int) + 1
    omega
  · show (aB _).length ≤ 64
    rw [aB_len]; omega
theorem ahead_move (n : Nat) : moveE (aS n) 2 = 0 ∧ (moveX (aS n) 2).length = min n 64 := by
  unfold moveE moveX
  have e1 : (aS n).ep = 1 := rfl
  rw [e1, if_neg (by omega), if_neg (by omega)]
  refine ⟨rfl, ?_⟩
  obtain ⟨h1, h2, -, h4, h5, -⟩ := (aS_ok n).move 2
  have a1 := h1.ep
  have a2 := h1.gap
  refine a1.all a2 _ (fun x hx => ?_) (fun k hk => ?_)
  · obtain ⟨p, hp, -, rfl⟩ := h4 x hx
    obtain ⟨i, hi, rfl⟩ := List.mem_map.1 (show p ∈ (List.range (min n 64)).map _ from hp)
    rw [List.mem_range] at hi
    show (i : Int) + 1 ≤ _
    omega
  · exact h5 (kyOf (aX k)) (show kyOf (aX k) ∈ (List.range (min n 64)).map _ from List.mem_map.2 ⟨k, by rw [List.mem_range]; exact hk, rfl⟩) rfl
theorem ahead_marks (n : Nat) : marksL (aS n) = [1, 1, 0, ((min n 64 : Nat) : Int)] := by
  unfold marksL
  have e1 : (aS n).bf.length = min n 64 := aB_len _
  have e2 : (aS n).wt.length = 0 := rfl
  rw [e1, e2]
  have : IntKind.u32.wrap ((min n 64 : Nat) : Int) = ((min n 64 : Nat) : Int) := by
    simp only [IntKind.wrap, IntKind.bits, IntKind.signed]
    simp; omega
  rw [this]
  rfl
theorem aS_0 : aS 0 = fw0 1 := rfl
set_option maxRecDepth 100000 in
set_option maxHeartbeats 6400000 in
theorem ahead_law (w : World) (n0 : Int) : Calls Try.prog 4 #[.int .i64 n0] w (LawP w) := by
  by_cases hr : n0 < 0 ∨ 70 < n0
  · go_enter Try.func4, Try.ntmps4
    by_cases h1 : n0 < 0
    · have hd : decide (n0 < 0) = true := by simpa using h1
      clear hr h1
      go_wp2_with (go_at_call 9; refine (shown_at _).mono ?_; rintro e wb ⟨rfl, hE⟩; have Hb := Lib.hid hE; clear hE)
      go_ret
      exact ⟨rfl, Hb.out⟩
    · have hd : decide (n0 < 0) = false := by simpa using h1
      have hd2 : decide (70 < n0) = true := by simp; omega
      clear hr h1
      go_wp2_with (go_at_call 9; refine (shown_at _).mono ?_; rintro e wb ⟨rfl, hE⟩; have Hb := Lib.hid hE; clear hE)
      go_ret
      exact ⟨rfl, Hb.out⟩
  · obtain ⟨n, rfl⟩ : ∃ n : Nat, n0 = n := ⟨n0.toNat, by omega⟩
    have hn : n ≤ 70 := by omega
    have hd : decide ((n : Int) < 0) = false := by apply decide_eq_false; omega
    have hd2 : decide (70 < (n : Int)) = false := by apply decide_eq_false; omega
    obtain ⟨M, hM⟩ : ∃ M, min n 64 = M := ⟨_, rfl⟩
    have hmi : min (n : Int) 64 = (M : Int) := by omega
    have HM := Lib.hid hM
    have hM64 : M ≤ 64 := by omega
    clear hr hM
    go_enter Try.func4, Try.ntmps4
    go_wp2_with (first
      | (go_at_call 9; refine (shown_at _).mono ?_; rintro e wb ⟨rfl, hE⟩; have Hb := Lib.hid hE; clear hE)
      | (go_at_call 10; refine (newF_at _ _).mono ?_; rintro e w5 ⟨c, mw, mb, rfl, hM, hE, hf⟩; have HF := Lib.hid (show FwI wb c mw mb (fw0 1) w5 from ⟨hM, hf, hE⟩); clear hM hE hf))
    go_loopw [5] (fun q wr => ∃ (k : Nat), q = .int .i64 k ∧ k ≤ n ∧ Hid (FwI wb c mw mb (aS k) wr)) (fun q _ => n - (intOf q).toNat)
    case atStart => exact ⟨0, rfl, Nat.zero_le _, HF⟩
    case round =>
      obtain ⟨k, rfl, hk, hF⟩ := hrel
      by_cases hlt : k < n
      · obtain ⟨s1, s2, s3⟩ := ahead_step (k := k) (by omega)
        have S1 := Lib.hid s1
        have S2 := Lib.hid s2
        have S3 := Lib.hid s3
        have hw1 : IntKind.u32.wrap (k : Int) = (k : Int) := by
          simp only [IntKind.wrap, IntKind.bits, IntKind.signed]
          simp; omega
        have hw2 : IntKind.u32.wrap ((k : Int) + 1) = (k : Int) + 1 := by
          simp only [IntKind.wrap, IntKind.bits, IntKind.signed]
          simp; omega
        have hwk : IntKind.i64.wrap ((k : Int) + 1) = (k : Int) + 1 := IntWalk.i64_in _ ⟨by omega, by omega⟩
        clear s1 s2 s3
        go_upto_region 8 with fail
        refine wp_region_line [(0,0),(1,0),(2,0),(3,0),(4,0),(5,0),(6,0),(7,1),(8,0),(9,3),(10,0),(11,0),(12,0),(13,0),(14,0)] (by kernel_rfl) (by kernel_rfl) (Ext wr) (fun _ _ h k => h.trans k) (Ext.refl _) ?_
        iterate 7
          first
            | refine Fx.skip rfl rfl (by simp only [List.set_cons_zero, List.set_cons_succ]; rfl) ?_
            | (with_reducible refine Fx.lab0 ?_
               first
                 | refine Fx.moveT rfl rfl rfl (by simp only [List.set_cons_zero, List.set_cons_succ]; rfl) ?_
                 | refine Fx.assignT rfl rfl rfl (by simp only [List.set_cons_zero, List.set_cons_succ]; rfl) ?_
                 | refine Fx.pure_ rfl rfl (fun _ => by go_simp; first | done | rfl) (by simp only [List.set_cons_zero, List.set_cons_succ]; rfl) ?_)
            | (with_reducible refine Fx.lab1 ?_
               refine Fx.look rfl rfl (fun w' hC => by obtain ⟨hc, hf, hl⟩ := Ext.cells hC; go_simp; rfl) (by simp only [List.set_cons_zero, List.set_cons_succ]; rfl) ?_)
        refine Fx.call1 (v := (mMsg 1 (k + 1)).val) (args := #[.int .i64 1, .int .u32 ((k : Int) + 1)]) rfl rfl (fun _ => by first | (go_simp; done) | (go_simp; rfl)) (fun w' hC => msg_at 1 (k + 1) w') (by simp only [List.set_cons_zero, List.set_cons_succ]; rfl) ?_
        refine Fx.pure_ (v := (aX k).val) rfl rfl (fun _ => by unfold Nb.val aX Ms.val; first | (go_simp; done) | (go_simp; rfl)) (by simp only [List.set_cons_zero, List.set_cons_succ]; rfl) ?_
        refine Fx.effBy (β := Option Addr × Nat) (fun p => .tuple #[.slice p.1 0 p.2, .int .i64 0]) (fun p w' => FwI wb c mw mb (aS (k + 1)) w') ⟨(none, 0)⟩ (fun _ _ _ h k => h.ext' k) rfl rfl (fun w' hC => ?_) (fun p => ?_)
        · unfold stepAt
          rw [show (execOp _ _).run Try.prog w' = .ok (.enter 14 #[.pointer (some ⟨c, 0, none⟩), (aX k).val]) w' from by first | (go_simp; done) | (go_simp; rfl)]
          refine (recv_any (hF.out.p.ext hC) (Nat.zero_le _) (Nat.le_trans (aS_ok k).bl (by decide)) (aX k)).mono (fun e w'' hh => ?_)
          obtain ⟨nv, rfl, h1, h2, h3, h4⟩ := hh
          rw [S3.out] at h1
          rw [S1.out] at h2
          rw [S2.out]
          obtain ⟨A, cap, rfl, -⟩ := h1.val
          exact ⟨_, rfl, (A, cap), rfl, (hF.out.ext' hC).step h2 h3⟩
        simp only [List.set_cons_zero, List.set_cons_succ]
        iterate 5
          first
            | refine Fx.skip rfl rfl (by simp only [List.set_cons_zero, List.set_cons_succ]; rfl) ?_
            | (with_reducible refine Fx.lab0 ?_
               first
                 | refine Fx.moveT rfl rfl rfl (by simp only [List.set_cons_zero, List.set_cons_succ]; rfl) ?_
                 | refine Fx.assignT rfl rfl rfl (by simp only [List.set_cons_zero, List.set_cons_succ]; rfl) ?_
                 | refine Fx.pure_ rfl rfl (fun _ => by go_simp; first | done | rfl) (by simp only [List.set_cons_zero, List.set_cons_succ]; rfl) ?_)
            | (with_reducible refine Fx.lab1 ?_
               refine Fx.look rfl rfl (fun w' hC => by obtain ⟨hc, hf, hl⟩ := Ext.cells hC; go_simp; rfl) (by simp only [List.set_cons_zero, List.set_cons_succ]; rfl) ?_)
        refine Fx.done (fun w6 hC => ?_)
        have HC := Lib.hid hC
        clear hC
        go_wp2
        go_roundw
        case rel => exact ⟨k + 1, by go_num, by omega, HC⟩
        case measure => simp [intOf]; omega
      · have hkn : k = n := by omega
        subst hkn
        have Hml := Lib.hid (ahead_marks k)
        obtain ⟨g1, g2⟩ := ahead_move k
        have G1 := Lib.hid g1
        have G2 := Lib.hid g2
        clear g1 g2 hd hd2
        go_upto_region 11 with fail
        refine wp_region_line [(0,0),(1,2),(2,0)] (by kernel_rfl) (by kernel_rfl) (Ext wr) (fun _ _ h k => h.trans k) (Ext.refl _) ?_
        first
          | refine Fx.skip rfl rfl (by simp only [List.set_cons_zero, List.set_cons_succ]; rfl) ?_
          | (with_reducible refine Fx.lab0 ?_
             first
               | refine Fx.moveT rfl rfl rfl (by simp only [List.set_cons_zero, List.set_cons_succ]; rfl) ?_
               | refine Fx.assignT rfl rfl rfl (by simp only [List.set_cons_zero, List.set_cons_succ]; rfl) ?_
               | refine Fx.pure_ rfl rfl (fun _ => by go_simp; first | done | rfl) (by simp only [List.set_cons_zero, List.set_cons_succ]; rfl) ?_)
          | (with_reducible refine Fx.lab1 ?_
             refine Fx.look rfl rfl (fun w' hC => by obtain ⟨hc, hf, hl⟩ := Ext.cells hC; go_simp; rfl) (by simp only [List.set_cons_zero, List.set_cons_succ]; rfl) ?_)
        refine Fx.mkBy (fun B : Nat => .slice (some ⟨B, 0, none⟩) 4 4) (fun B w' => ¬ FF c mw mb B ∧ UL w' (.slice (some ⟨B, 0, none⟩) 4 4) [1, 1, 0, (M : Int)]) (fun _ _ _ h k => ⟨h.1, h.2.ext k⟩) rfl rfl (fun w' hC => ?_) (fun B => ?_)
        · unfold stepAt
          rw [show (execOp _ _).run Try.prog w' = .ok (.enter 18 #[.pointer (some ⟨c, 0, none⟩)]) w' from by first | (go_simp; done) | (go_simp; rfl)]
          refine (marks_at (hF.out.p.ext hC)).mono (fun e w'' hh => ?_)
          obtain ⟨⟨B, rfl, h0, h1⟩, h2⟩ := hh
          rw [Hml.out, HM.out] at h1
          exact ⟨_, rfl, B, rfl, h2, fun hx => by have := (hF.out.p.ext hC).lt hx; omega, h1⟩
        simp only [List.set_cons_zero, List.set_cons_succ]
        first
          | refine Fx.skip rfl rfl (by simp only [List.set_cons_zero, List.set_cons_succ]; rfl) ?_
          | (with_reducible refine Fx.lab0 ?_
             first
               | refine Fx.moveT rfl rfl rfl (by simp only [List.set_cons_zero, List.set_cons_succ]; rfl) ?_
               | refine Fx.assignT rfl rfl rfl (by simp only [List.set_cons_zero, List.set_cons_succ]; rfl) ?_
               | refine Fx.pure_ rfl rfl (fun _ => by go_simp; first | done | rfl) (by simp only [List.set_cons_zero, List.set_cons_succ]; rfl) ?_)
          | (with_reducible refine Fx.lab1 ?_
             refine Fx.look rfl rfl (fun w' hC => by obtain ⟨hc, hf, hl⟩ := Ext.cells hC; go_simp; rfl) (by simp only [List.set_cons_zero, List.set_cons_succ]; rfl) ?_)
        refine Fx.done (fun w6 hC => ?_)
        have HU := Lib.hid hC.2.2
        have HnB := Lib.hid hC.2.1
        have HF6 := Lib.hid (hF.out.ext' hC.1)
        clear hC
        go_upto_region 12 with fail
        refine wp_region_line [(0,0),(1,3),(2,0),(3,0),(4,0),(5,0),(6,0)] (by kernel_rfl) (by kernel_rfl) (Ext w6) (fun _ _ h k => h.trans k) (Ext.refl _) ?_
        first
          | refine Fx.skip rfl rfl (by simp only [List.set_cons_zero, List.set_cons_succ]; rfl) ?_
          | (with_reducible refine Fx.lab0 ?_
             first
               | refine Fx.moveT rfl rfl rfl (by simp only [List.set_cons_zero, List.set_cons_succ]; rfl) ?_
               | refine Fx.assignT rfl rfl rfl (by simp only [List.set_cons_zero, List.set_cons_succ]; rfl) ?_
               | refine Fx.pure_ rfl rfl (fun _ => by go_simp; first | done | rfl) (by simp only [List.set_cons_zero, List.set_cons_succ]; rfl) ?_)
          | (with_reducible refine Fx.lab1 ?_
             refine Fx.look rfl rfl (fun w' hC => by obtain ⟨hc, hf, hl⟩ := Ext.cells hC; go_simp; rfl) (by simp only [List.set_cons_zero, List.set_cons_succ]; rfl) ?_)
        refine Fx.effBy (β := Option Addr × Nat) (fun p => .tuple #[.slice p.1 M p.2, .int .i64 0]) (fun p w' => Ext wb w' ∧ UL w' (.slice (some ⟨B, 0, none⟩) 4 4) [1, 1, 0, (M : Int)]) ⟨(none, 0)⟩ (fun _ _ _ h k => ⟨h.1.trans k, h.2.ext k⟩) rfl rfl (fun w' hC => ?_) (fun p => ?_)
        · unfold stepAt
          rw [show (execOp _ _).run Try.prog w' = .ok (.enter 12 #[.pointer (some ⟨c, 0, none⟩), .int .u32 2]) w' from by first | (go_simp; done) | (go_simp; rfl)]
          refine (move_any (HF6.out.p.ext hC) (aS_ok k).bn (Nat.le_trans (aS_ok k).bl (by decide)) 2).mono (fun e w'' hh => ?_)
          obtain ⟨nv, rfl, h1, h2, h3, h4⟩ := hh
          rw [G1.out]
          obtain ⟨A, cap, rfl, -⟩ := h1.val
          rw [G2.out, HM.out]
          exact ⟨_, rfl, (A, cap), rfl, ((HF6.out.ext' hC).step h2 h3).e, (HU.out.ext hC).mods h3 (fun x hx => by
            simp [Value.ownBlock] at hx
            subst hx
            exact HnB.out)⟩
        simp only [List.set_cons_zero, List.set_cons_succ]
        iterate 5
          first
            | refine Fx.skip rfl rfl (by simp only [List.set_cons_zero, List.set_cons_succ]; rfl) ?_
            | (with_reducible refine Fx.lab0 ?_
               first
                 | refine Fx.moveT rfl rfl rfl (by simp only [List.set_cons_zero, List.set_cons_succ]; rfl) ?_
                 | refine Fx.assignT rfl rfl rfl (by simp only [List.set_cons_zero, List.set_cons_succ]; rfl) ?_
                 | refine Fx.pure_ rfl rfl (fun _ => by go_simp; first | done | rfl) (by simp only [List.set_cons_zero, List.set_cons_succ]; rfl) ?_)
            | (with_reducible refine Fx.lab1 ?_
               refine Fx.look rfl rfl (fun w' hC => by obtain ⟨hc, hf, hl⟩ := Ext.cells hC; go_simp; rfl) (by simp only [List.set_cons_zero, List.set_cons_succ]; rfl) ?_)
        refine Fx.done (fun w7 hC => ?_)
        have HC := Lib.hid hC
        clear hC
        obtain ⟨zb, zo, hz, zl, z3⟩ := Sl.at1U HC.out.2 (j := 3) (by simp)
        simp only [Option.some.injEq, Addr.mk.injEq, and_true] at hz
        obtain ⟨rfl, rfl⟩ := hz
        replace z3 : w7.cell? ⟨B, 3, none⟩ = some (.int .u32 (M : Int)) := z3
        have hwM : IntKind.i64.wrap (M : Int) = (M : Int) := IntWalk.i64_in _ ⟨by omega, by omega⟩
        go_wp2
        go_ret
        exact ⟨by simp, Hb.out.trans HC.out.1⟩
end Go.Proofs.Ytokljdkeegdniaa
