/-
  rostrumlaw07.shown: it answers true; DetectNone's walk.
-/
import Derived.Test.YtfdbfdbeegalpaaTick
import Derived.Test.YtfdbfdbeegalpaaLead
import Derived.Test.YtfdbfdbeegalpaaNewD
namespace Go.Proofs.Ytfdbfdbeegalpaa
open Go.RowKit
attribute [local go_sem] Oper.semAt_some

def sameI (a b : List Int) : Bool := decide (a = b)
set_option maxRecDepth 100000 in
theorem sameI_at (va vb : Value) (a b : List Int) (w : World) (ha : IL .i64 w va a) (hb : IL .i64 w vb b) (hlen : a.length ≤ 1073741824) :
    Calls Try.prog 15 #[va, vb] w fun e w' => e = .returned (.bool (sameI a b)) ∧ Ext w w' := by
  obtain ⟨A, cap, rfl, hc1, hc2⟩ := ha.val
  obtain ⟨B, cap', rfl, hc3, hc4⟩ := hb.val
  have hA := Lib.hid ha
  have hB := Lib.hid hb
  clear ha hb
  unfold maxLen at hc2 hc4
  by_cases hn : a.length = b.length
  · have hn' : ((a.length : Int) != (b.length : Int)) = false := by simp [hn]
    have Hn := Lib.hid hn
    go_enter Try.func15, Try.ntmps15
    go_wp2
    clear hn' hn
    go_loopw [5] (fun i wr => ∃ k : Nat, k ≤ a.length ∧ i = .int .i64 k ∧ a.take k = b.take k ∧ Ext w wr) (fun i _ => a.length - (intOf i).toNat)
    case atStart => exact ⟨0, Nat.zero_le _, rfl, by simp, Ext.refl _⟩
    case round =>
      obtain ⟨k, hk, rfl, heq, hext⟩ := hrel
      have Heq := Lib.hid heq
      have hwk : IntKind.i64.wrap ((k : Int) + 1) = (k : Int) + 1 := IntWalk.i64_in _ ⟨by omega, by omega⟩
      clear heq
      by_cases hlt : k < a.length
      · have hlt2 : k < b.length := by have := Hn.out; omega
        obtain ⟨ab, ao, rfl, hbl, c0⟩ := Sl.at1 (hA.out.ext hext) hlt
        obtain ⟨bb, bo, rfl, hbl', d0⟩ := Sl.at1 (hB.out.ext hext) hlt2
        have Hs := Lib.hid (List.take_succ_eq_append_getElem hlt)
        have Hs' := Lib.hid (List.take_succ_eq_append_getElem hlt2)
        obtain ⟨x, hx⟩ : ∃ x, a[k] = x := ⟨_, rfl⟩
        obtain ⟨y, hy⟩ : ∃ y, b[k] = y := ⟨_, rfl⟩
        rw [hx] at c0 Hs
        rw [hy] at d0 Hs'
        have Hx := Lib.hid hx
        have Hy := Lib.hid hy
        have hkb : (k : Int) < b.length := by omega
        clear hx hy
        obtain ⟨r, hr⟩ : ∃ r, (x != y) = r := ⟨_, rfl⟩
        have Hr := Lib.hid hr
        go_upto_region 6 with fail
        refine wp_region_plan [(0,0),(1,0),(2,0),(3,1),(4,0),(5,0),(6,0),(7,1),(8,0)] (by kernel_rfl) (by kernel_rfl) (by kernel_rfl) (Ext wr) (fun _ _ h k => h.trans k) (Ext.drawn _ _) ?_
        iterate 9
          first
            | refine Fx.skip rfl rfl (by simp only [List.set_cons_zero, List.set_cons_succ]; rfl) ?_
            | (with_reducible refine Fx.lab0 ?_
               first
                 | refine Fx.moveT rfl rfl rfl (by simp only [List.set_cons_zero, List.set_cons_succ]; rfl) ?_
                 | refine Fx.assignT rfl rfl rfl (by simp only [List.set_cons_zero, List.set_cons_succ]; rfl) ?_
                 | refine Fx.pure_ rfl rfl (fun _ => by go_simp; first | done | rfl) (by simp only [List.set_cons_zero, List.set_cons_succ]; rfl) ?_)
            | (with_reducible refine Fx.lab1 ?_
               refine Fx.look rfl rfl (fun w' hC => by obtain ⟨hc, hf, hl⟩ := Ext.cells hC; go_simp; rfl) (by simp only [List.set_cons_zero, List.set_cons_succ]; rfl) ?_)
        refine Fx.done (fun w1 hC => ?_)
        clear hr c0 d0
        cases r with
        | false =>
          have hxm : x = y := by have := Hr.out; simpa using this
          go_wp2
          go_roundw
          case rel => exact ⟨k + 1, by omega, by go_num, by rw [Hs.out, Hs'.out, Heq.out, hxm], hext.trans hC⟩
          case measure => simp [intOf]; omega
        | true =>
          have hxm : ¬ x = y := by have := Hr.out; simpa using this
          go_wp2
          go_ret
          have hne : ¬ a = b := by
            intro e
            have h1 := Hx.out; have h2 := Hy.out
            subst e
            exact hxm (h1.symm.trans h2)
          exact ⟨by simp [sameI, hne], hext.trans hC⟩
      · go_wp2
        go_ret
        have he : a = b := by
          have h1 := Heq.out
          rwa [List.take_of_length_le (by omega), List.take_of_length_le (by have := Hn.out; omega)] at h1
        exact ⟨by simp [sameI, he], hext⟩
  · have hn' : ((a.length : Int) != (b.length : Int)) = true := by simp; omega
    have Hn := Lib.hid hn
    clear hn
    go_enter Try.func15, Try.ntmps15
    go_wp2
    go_ret
    have hne : ¬ a = b := fun e => Hn.out (by rw [e])
    exact ⟨by simp [sameI, hne], Ext.refl _⟩

def z0 : DSt := newS 0 3 10 20 5 0
def z1 : DSt := tickS z0 11
def z2 : DSt := hearS z1 2 12
theorem z0_ok : z0.Ok := newS_ok (self := 0) (n := 3) (by decide) (by decide) (by decide)
theorem z1_ok : z1.Ok := tick_ok z0_ok 11
theorem z2_ok : z2.Ok := hear_ok z1_ok 2 12

set_option maxRecDepth 100000 in
set_option maxHeartbeats 3200000 in
theorem shown_at (w : World) : Calls Try.prog 8 #[] w fun e w' => e = .returned (.bool true) ∧ Ext w w' := by
  have T1 := Lib.hid (show tickE z0 11 = 0 by decide)
  have T2 := Lib.hid (show ints (tickL z0 11) = [1, 2] by decide)
  have T3 := Lib.hid (show hearE z1 2 12 = 0 by decide)
  have T4 := Lib.hid (show timeV z2 2 = 15 by decide)
  have T5 := Lib.hid (show leadV z2 = 0 by decide)
  have T6 := Lib.hid (show ints (susL z2) = [1] by decide)
  have T7 := Lib.hid (show newB 0 17 1 1 0 0 = false by decide)
  have T8 := Lib.hid (show newB 0 3 10 20 5 0 = true by decide)
  have T9 := Lib.hid (show sameI [1, 2] [1, 2] = true by decide)
  have T10 := Lib.hid (show sameI [1] [1] = true by decide)
  go_enter Try.func8, Try.ntmps8
  go_upto_region 2 with (go_at_call 14; refine (new_at _ 0 3 10 20 5 0 (by decide) (by decide) (by decide) (by decide)).mono ?_; rintro e w1 (⟨h, -, -⟩ | ⟨-, b, mb, rfl, hM, hE, hb, hmb⟩) <;> first | (exact absurd (h.symm.trans T8.out) (by decide)) | skip; have HM : Hid (DetAt w1 b mb z0) := Lib.hid hM; have HE := Lib.hid hE; have Hb := Lib.hid hb; have Hmb := Lib.hid hmb; clear hM hE hb hmb)
  go_upto_region 3 with (go_at_call 9; refine (tick_at HM.out z0_ok 11).mono ?_; rintro e w2 ⟨v, he, hL, hD, hm, hf⟩; rw [T1.out] at he; subst he; rw [T2.out] at hL; obtain ⟨vA, vcap, rfl, -⟩ := hL.val; have HL := Lib.hid hL; have HD2 : Hid (DetAt w2 b mb z1) := Lib.hid hD; have Hm2 := Lib.hid hm; have Hf := Lib.hid hf; clear hL hD hm hf)
  go_upto_region 4 with (go_at_call 10; refine (hear_at HD2.out z1_ok 2 12).mono ?_; rintro e w3 ⟨he, hD, hm⟩; rw [T3.out] at he; subst he; have HD3 : Hid (DetAt w3 b mb z2) := Lib.hid hD; have Hm3 := Lib.hid hm; clear hD hm)
  go_upto_region 5 with (go_at_call 14; refine (new_at _ 0 17 1 1 0 0 (by decide) (by decide) (by decide) (by decide)).mono ?_; rintro e w4 (⟨-, rfl, hE4⟩ | ⟨h, -⟩) <;> first | (exact absurd (h.symm.trans T7.out) (by decide)) | skip; have HE4 := Lib.hid hE4; clear hE4)
  have HL4 := Lib.hid ((HL.out.mods Hm3.out (fun y hy h => by
    obtain ⟨h1, h2, h3⟩ := Hf.out y hy
    rcases h with h | h
    · exact h2 h
    · exact h3 h)).ext HE4.out)
  have HD4 := Lib.hid (HD3.out.ext HE4.out)
  have HEw : Hid (Ext w w4) := Lib.hid (((((HE.out.mods (FD b mb)).trans Hm2.out (fun _ _ h => h)).trans Hm3.out (fun _ _ h => h)).then_ HE4.out).ext_of (fun x hx h => by
    have := Hb.out; have := Hmb.out
    rcases h with h | h <;> omega))
  refine wp_region_line [(0,0),(1,0),(2,0),(3,0),(4,0),(5,0),(6,0),(7,0),(8,0),(9,0),(10,0),(11,0),(12,0),(13,0),(14,0),(15,0),(16,2),(17,1),(18,0),(19,0),(20,0),(21,1),(22,0),(23,0),(24,0),(25,0),(26,1),(27,0),(28,0),(29,0),(30,0),(31,2),(32,2),(33,1),(34,0),(35,0)] (by kernel_rfl) (by kernel_rfl) (Ext w4) (fun _ _ h k => h.trans k) (Ext.refl _) ?_
  iterate 16
    first
      | refine Fx.skip rfl rfl (by simp only [List.set_cons_zero, List.set_cons_succ]; rfl) ?_
      | (with_reducible refine Fx.lab0 ?_
         first
           | refine Fx.moveT rfl rfl rfl (by simp only [List.set_cons_zero, List.set_cons_succ]; rfl) ?_
           | refine Fx.assignT rfl rfl rfl (by simp only [List.set_cons_zero, List.set_cons_succ]; rfl) ?_
           | refine Fx.pure_ rfl rfl (fun _ => by go_simp; first | done | rfl) (by simp only [List.set_cons_zero, List.set_cons_succ]; rfl) ?_)
      | (with_reducible refine Fx.lab1 ?_
         refine Fx.look rfl rfl (fun w' hC => by obtain ⟨hc, hf, hl⟩ := Ext.cells hC; go_simp; rfl) (by simp only [List.set_cons_zero, List.set_cons_succ]; rfl) ?_)
  refine Fx.mkSl 2 2 (fun B w' => IL .i64 w' (.slice (some ⟨B, 0, none⟩) 2 2) [1, 2]) (fun B _ _ h k => h.ext k) rfl rfl (fun w' hC => stepAt_litI2 hC 1 2 rfl rfl) (fun B => ?_)
  simp only [List.set_cons_zero, List.set_cons_succ]
  refine Fx.call1 (v := .bool true) (args := #[.slice vA 2 vcap, .slice (some ⟨B, 0, none⟩) 2 2]) rfl rfl (fun _ => by first | (go_simp; done) | (go_simp; rfl)) (fun w' hC => (sameI_at _ _ [1, 2] [1, 2] w' ((HL4.out.ext hC.1).sl (encI_len _)) hC.2 (by simp)).mono (fun e w'' hh => by rw [T9.out] at hh; exact hh)) (by simp only [List.set_cons_zero, List.set_cons_succ]; rfl) ?_
  iterate 3
    first
      | refine Fx.skip rfl rfl (by simp only [List.set_cons_zero, List.set_cons_succ]; rfl) ?_
      | (with_reducible refine Fx.lab0 ?_
         first
           | refine Fx.moveT rfl rfl rfl (by simp only [List.set_cons_zero, List.set_cons_succ]; rfl) ?_
           | refine Fx.assignT rfl rfl rfl (by simp only [List.set_cons_zero, List.set_cons_succ]; rfl) ?_
           | refine Fx.pure_ rfl rfl (fun _ => by go_simp; first | done | rfl) (by simp only [List.set_cons_zero, List.set_cons_succ]; rfl) ?_)
      | (with_reducible refine Fx.lab1 ?_
         refine Fx.look rfl rfl (fun w' hC => by obtain ⟨hc, hf, hl⟩ := Ext.cells hC; go_simp; rfl) (by simp only [List.set_cons_zero, List.set_cons_succ]; rfl) ?_)
  refine Fx.call1 (v := .int .u64 15) (args := #[.pointer (some ⟨b, 0, none⟩), .int .i64 2]) rfl rfl (fun _ => by first | (go_simp; done) | (go_simp; rfl)) (fun w' hC => (timeout_at (HD4.out.ext hC.1) 2).mono (fun e w'' hh => by rw [T4.out] at hh; exact hh)) (by simp only [List.set_cons_zero, List.set_cons_succ]; rfl) ?_
  iterate 4
    first
      | refine Fx.skip rfl rfl (by simp only [List.set_cons_zero, List.set_cons_succ]; rfl) ?_
      | (with_reducible refine Fx.lab0 ?_
         first
           | refine Fx.moveT rfl rfl rfl (by simp only [List.set_cons_zero, List.set_cons_succ]; rfl) ?_
           | refine Fx.assignT rfl rfl rfl (by simp only [List.set_cons_zero, List.set_cons_succ]; rfl) ?_
           | refine Fx.pure_ rfl rfl (fun _ => by go_simp; first | done | rfl) (by simp only [List.set_cons_zero, List.set_cons_succ]; rfl) ?_)
      | (with_reducible refine Fx.lab1 ?_
         refine Fx.look rfl rfl (fun w' hC => by obtain ⟨hc, hf, hl⟩ := Ext.cells hC; go_simp; rfl) (by simp only [List.set_cons_zero, List.set_cons_succ]; rfl) ?_)
  refine Fx.call1 (v := .int .i64 0) (args := #[.pointer (some ⟨b, 0, none⟩)]) rfl rfl (fun _ => by first | (go_simp; done) | (go_simp; rfl)) (fun w' hC => (lead_at (HD4.out.ext hC.1) z2_ok).mono (fun e w'' hh => by rw [T5.out] at hh; exact hh)) (by simp only [List.set_cons_zero, List.set_cons_succ]; rfl) ?_
  iterate 4
    first
      | refine Fx.skip rfl rfl (by simp only [List.set_cons_zero, List.set_cons_succ]; rfl) ?_
      | (with_reducible refine Fx.lab0 ?_
         first
           | refine Fx.moveT rfl rfl rfl (by simp only [List.set_cons_zero, List.set_cons_succ]; rfl) ?_
           | refine Fx.assignT rfl rfl rfl (by simp only [List.set_cons_zero, List.set_cons_succ]; rfl) ?_
           | refine Fx.pure_ rfl rfl (fun _ => by go_simp; first | done | rfl) (by simp only [List.set_cons_zero, List.set_cons_succ]; rfl) ?_)
      | (with_reducible refine Fx.lab1 ?_
         refine Fx.look rfl rfl (fun w' hC => by obtain ⟨hc, hf, hl⟩ := Ext.cells hC; go_simp; rfl) (by simp only [List.set_cons_zero, List.set_cons_succ]; rfl) ?_)
  refine Fx.mkBy (β := Option Addr × Nat) (hi := ⟨(none, 0)⟩) (fun p => .slice p.1 1 p.2) (fun p w' => OwnI w' (.slice p.1 1 p.2) [1]) (fun p _ _ h k => h.ext k) rfl rfl (fun w' hC => ?_) (fun p => ?_)
  · unfold stepAt
    rw [show (execOp _ _).run Try.prog w' = .ok (.enter 12 #[.pointer (some ⟨b, 0, none⟩)]) w' from by first | (go_simp; done) | (go_simp; rfl)]
    exact (sus_at (HD4.out.ext hC.1) z2_ok).mono (fun e w'' hh => by
      obtain ⟨v, rfl, h1, h2, h3⟩ := hh
      rw [T6.out] at h1
      obtain ⟨A, cap, rfl, -⟩ := h1.val
      exact ⟨_, rfl, (A, cap), rfl, h2, h1⟩)
  obtain ⟨sA, scap⟩ := p
  simp only [List.set_cons_zero, List.set_cons_succ]
  refine Fx.mkSl 1 1 (fun B w' => IL .i64 w' (.slice (some ⟨B, 0, none⟩) 1 1) [1]) (fun B _ _ h k => h.ext k) rfl rfl (fun w' hC => stepAt_litI1 hC.1.1 1 rfl) (fun B2 => ?_)
  simp only [List.set_cons_zero, List.set_cons_succ]
  refine Fx.call1 (v := .bool true) (args := #[.slice sA 1 scap, .slice (some ⟨B2, 0, none⟩) 1 1]) rfl rfl (fun _ => by first | (go_simp; done) | (go_simp; rfl)) (fun w' hC => (sameI_at _ _ [1] [1] w' (hC.1.2.sl (encI_len _)) hC.2 (by simp)).mono (fun e w'' hh => by rw [T10.out] at hh; exact hh)) (by simp only [List.set_cons_zero, List.set_cons_succ]; rfl) ?_
  iterate 2
    first
      | refine Fx.skip rfl rfl (by simp only [List.set_cons_zero, List.set_cons_succ]; rfl) ?_
      | (with_reducible refine Fx.lab0 ?_
         first
           | refine Fx.moveT rfl rfl rfl (by simp only [List.set_cons_zero, List.set_cons_succ]; rfl) ?_
           | refine Fx.assignT rfl rfl rfl (by simp only [List.set_cons_zero, List.set_cons_succ]; rfl) ?_
           | refine Fx.pure_ rfl rfl (fun _ => by go_simp; first | done | rfl) (by simp only [List.set_cons_zero, List.set_cons_succ]; rfl) ?_)
      | (with_reducible refine Fx.lab1 ?_
         refine Fx.look rfl rfl (fun w' hC => by obtain ⟨hc, hf, hl⟩ := Ext.cells hC; go_simp; rfl) (by simp only [List.set_cons_zero, List.set_cons_succ]; rfl) ?_)
  refine Fx.done (fun w7 hC => ?_)
  have HC := Lib.hid hC.1.1.1
  clear hC
  go_wp2
  go_ret
  exact ⟨rfl, HEw.out.trans HC.out⟩

set_option maxRecDepth 100000 in
set_option maxHeartbeats 3200000 in
theorem none_at (node t : Int) (w : World) : Calls Try.prog 3 #[.int .i64 node, .int .u64 t] w fun e w' => e = .returned (.bool true) ∧ Ext w w' := by
  go_enter Try.func3, Try.ntmps3
  go_upto_region 4 with (first
    | (go_at_call 8; refine (shown_at _).mono ?_; rintro e w1 ⟨rfl, hE1⟩; have H1 := Lib.hid hE1; clear hE1)
    | (go_at_call 9; refine (tick_nil _ _).mono ?_; rintro e w2 ⟨rfl, hE2⟩; have H2 := Lib.hid hE2; clear hE2))
  refine wp_region_line [(0,0),(1,0),(2,0),(3,0),(4,0),(5,0),(6,0),(7,0),(8,0),(9,0),(10,0),(11,0),(12,0),(13,0),(14,1),(15,0),(16,0),(17,0),(18,0),(19,1),(20,0),(21,0),(22,0),(23,0),(24,1),(25,0),(26,0),(27,0),(28,0),(29,0),(30,0),(31,1),(32,0),(33,0),(34,0)] (by kernel_rfl) (by kernel_rfl) (Ext w2) (fun _ _ h k => h.trans k) (Ext.refl _) ?_
  iterate 14
    first
      | refine Fx.skip rfl rfl (by simp only [List.set_cons_zero, List.set_cons_succ]; rfl) ?_
      | (with_reducible refine Fx.lab0 ?_
         first
           | refine Fx.moveT rfl rfl rfl (by simp only [List.set_cons_zero, List.set_cons_succ]; rfl) ?_
           | refine Fx.assignT rfl rfl rfl (by simp only [List.set_cons_zero, List.set_cons_succ]; rfl) ?_
           | refine Fx.pure_ rfl rfl (fun _ => by go_simp; first | done | rfl) (by simp only [List.set_cons_zero, List.set_cons_succ]; rfl) ?_)
      | (with_reducible refine Fx.lab1 ?_
         refine Fx.look rfl rfl (fun w' hC => by obtain ⟨hc, hf, hl⟩ := Ext.cells hC; go_simp; rfl) (by simp only [List.set_cons_zero, List.set_cons_succ]; rfl) ?_)
  refine Fx.call1 (v := .int .i64 1) (args := #[.pointer none, .int .i64 node, .int .u64 t]) rfl rfl (fun _ => by first | (go_simp; done) | (go_simp; rfl)) (fun w' hC => (hear_nil w' node t).mono (fun e w'' hh => ⟨hh.1, hh.2 ▸ Ext.refl _⟩)) (by simp only [List.set_cons_zero, List.set_cons_succ]; rfl) ?_
  iterate 4
    first
      | refine Fx.skip rfl rfl (by simp only [List.set_cons_zero, List.set_cons_succ]; rfl) ?_
      | (with_reducible refine Fx.lab0 ?_
         first
           | refine Fx.moveT rfl rfl rfl (by simp only [List.set_cons_zero, List.set_cons_succ]; rfl) ?_
           | refine Fx.assignT rfl rfl rfl (by simp only [List.set_cons_zero, List.set_cons_succ]; rfl) ?_
           | refine Fx.pure_ rfl rfl (fun _ => by go_simp; first | done | rfl) (by simp only [List.set_cons_zero, List.set_cons_succ]; rfl) ?_)
      | (with_reducible refine Fx.lab1 ?_
         refine Fx.look rfl rfl (fun w' hC => by obtain ⟨hc, hf, hl⟩ := Ext.cells hC; go_simp; rfl) (by simp only [List.set_cons_zero, List.set_cons_succ]; rfl) ?_)
  refine Fx.call1 (v := .int .i64 (-1)) (args := #[.pointer none]) rfl rfl (fun _ => by first | (go_simp; done) | (go_simp; rfl)) (fun w' hC => lead_nil w') (by simp only [List.set_cons_zero, List.set_cons_succ]; rfl) ?_
  iterate 4
    first
      | refine Fx.skip rfl rfl (by simp only [List.set_cons_zero, List.set_cons_succ]; rfl) ?_
      | (with_reducible refine Fx.lab0 ?_
         first
           | refine Fx.moveT rfl rfl rfl (by simp only [List.set_cons_zero, List.set_cons_succ]; rfl) ?_
           | refine Fx.assignT rfl rfl rfl (by simp only [List.set_cons_zero, List.set_cons_succ]; rfl) ?_
           | refine Fx.pure_ rfl rfl (fun _ => by go_simp; first | done | rfl) (by simp only [List.set_cons_zero, List.set_cons_succ]; rfl) ?_)
      | (with_reducible refine Fx.lab1 ?_
         refine Fx.look rfl rfl (fun w' hC => by obtain ⟨hc, hf, hl⟩ := Ext.cells hC; go_simp; rfl) (by simp only [List.set_cons_zero, List.set_cons_succ]; rfl) ?_)
  refine Fx.call1 (v := .slice none 0 0) (args := #[.pointer none]) rfl rfl (fun _ => by first | (go_simp; done) | (go_simp; rfl)) (fun w' hC => (sus_nil w').mono (fun e w'' hh => ⟨hh.1, hh.2 ▸ Ext.refl _⟩)) (by simp only [List.set_cons_zero, List.set_cons_succ]; rfl) ?_
  iterate 6
    first
      | refine Fx.skip rfl rfl (by simp only [List.set_cons_zero, List.set_cons_succ]; rfl) ?_
      | (with_reducible refine Fx.lab0 ?_
         first
           | refine Fx.moveT rfl rfl rfl (by simp only [List.set_cons_zero, List.set_cons_succ]; rfl) ?_
           | refine Fx.assignT rfl rfl rfl (by simp only [List.set_cons_zero, List.set_cons_succ]; rfl) ?_
           | refine Fx.pure_ rfl rfl (fun _ => by go_simp; first | done | rfl) (by simp only [List.set_cons_zero, List.set_cons_succ]; rfl) ?_)
      | (with_reducible refine Fx.lab1 ?_
         refine Fx.look rfl rfl (fun w' hC => by obtain ⟨hc, hf, hl⟩ := Ext.cells hC; go_simp; rfl) (by simp only [List.set_cons_zero, List.set_cons_succ]; rfl) ?_)
  refine Fx.call1 (v := .int .u64 0) (args := #[.pointer none, .int .i64 node]) rfl rfl (fun _ => by first | (go_simp; done) | (go_simp; rfl)) (fun w' hC => (timeout_nil w' node).mono (fun e w'' hh => ⟨hh.1, hh.2 ▸ Ext.refl _⟩)) (by simp only [List.set_cons_zero, List.set_cons_succ]; rfl) ?_
  iterate 3
    first
      | refine Fx.skip rfl rfl (by simp only [List.set_cons_zero, List.set_cons_succ]; rfl) ?_
      | (with_reducible refine Fx.lab0 ?_
         first
           | refine Fx.moveT rfl rfl rfl (by simp only [List.set_cons_zero, List.set_cons_succ]; rfl) ?_
           | refine Fx.assignT rfl rfl rfl (by simp only [List.set_cons_zero, List.set_cons_succ]; rfl) ?_
           | refine Fx.pure_ rfl rfl (fun _ => by go_simp; first | done | rfl) (by simp only [List.set_cons_zero, List.set_cons_succ]; rfl) ?_)
      | (with_reducible refine Fx.lab1 ?_
         refine Fx.look rfl rfl (fun w' hC => by obtain ⟨hc, hf, hl⟩ := Ext.cells hC; go_simp; rfl) (by simp only [List.set_cons_zero, List.set_cons_succ]; rfl) ?_)
  refine Fx.done (fun w7 hC => ?_)
  have HC := Lib.hid hC
  clear hC
  go_wp2
  go_ret
  exact ⟨rfl, (H1.out.trans H2.out).trans HC.out⟩
end Go.Proofs.Ytfdbfdbeegalpaa
