/-
  rostrumlaw11.SequenceOrder: what it computes.
-/
import Derived.Test.YtokljdkeegdniaaPlainS
import Derived.Test.YtokljdkeegdniaaOpenW
namespace Go.Proofs.Ytokljdkeegdniaa
open Go.RowKit
attribute [local go_sem] Oper.semAt_some

/-- The follower and the two lists, apart. -/
structure OrdW (wc : World) (c mw mb : Nat) (σ : FwSt) (av : Value) (a : List Ms) (bv : Value) (b : List Ms) (w : World) : Prop where
  f : FwI wc c mw mb σ w
  oa : OwnMs w av a
  ob : OwnMs w bv b
  na : ∀ x, av.ownBlock = some x → wc.heap.size ≤ x ∧ ¬ FF c mw mb x ∧ bv.ownBlock ≠ some x
  nb : ∀ x, bv.ownBlock = some x → wc.heap.size ≤ x ∧ ¬ FF c mw mb x
theorem OrdW.ext {wc : World} {c mw mb : Nat} {σ : FwSt} {av bv : Value} {a b : List Ms} {w w' : World} (h : OrdW wc c mw mb σ av a bv b w) (he : Ext w w') : OrdW wc c mw mb σ av a bv b w' := ⟨h.f.ext' he, h.oa.ext he, h.ob.ext he, h.na, h.nb⟩
theorem OrdW.fw {wc : World} {c mw mb : Nat} {σ σ' : FwSt} {av bv : Value} {a b : List Ms} {w w' : World} (h : OrdW wc c mw mb σ av a bv b w) (hp : FwAt w' c mw mb σ') (hm : Mods (FF c mw mb) w w') : OrdW wc c mw mb σ' av a bv b w' :=
  ⟨h.f.step hp hm, h.oa.mods hm (fun x hx => (h.na x hx).2.1), h.ob.mods hm (fun x hx => (h.nb x hx).2), h.na, h.nb⟩
theorem OrdW.putB {wc : World} {c mw mb : Nat} {σ : FwSt} {av bv bv' : Value} {a b b' : List Ms} {w w' : World} (h : OrdW wc c mw mb σ av a bv b w) (ho : OwnMs w' bv' b') (hm : Mods (fun x => bv.ownBlock = some x) w w') (hn : ∀ x, bv'.ownBlock = some x → bv.ownBlock = some x ∨ w.heap.size ≤ x) : OrdW wc c mw mb σ av a bv' b' w' := by
  refine ⟨⟨h.f.p.mods hm (fun x hx e => (h.nb x e).2 hx), h.f.fr, ((h.f.e.mods _).trans hm (fun _ _ h => h)).ext_of (fun x hx e => by have := (h.nb x e).1; omega)⟩, h.oa.mods hm (fun x hx => (h.na x hx).2.2), ho, fun x hx => ⟨(h.na x hx).1, (h.na x hx).2.1, fun e => ?_⟩, fun x hx => ?_⟩
  · rcases hn x e with e | e
    · exact (h.na x hx).2.2 e
    · have := h.oa.lt hx; omega
  · rcases hn x hx with e | e
    · exact h.nb x e
    · exact ⟨Nat.le_trans h.f.e.size e, fun hf => by have := h.f.p.lt hf; omega⟩
theorem OrdW.putA {wc : World} {c mw mb : Nat} {σ : FwSt} {av bv av' : Value} {a b a' : List Ms} {w w' : World} (h : OrdW wc c mw mb σ av a bv b w) (ho : OwnMs w' av' a') (hm : Mods (fun x => av.ownBlock = some x) w w') (hn : ∀ x, av'.ownBlock = some x → av.ownBlock = some x ∨ w.heap.size ≤ x) : OrdW wc c mw mb σ av' a' bv b w' := by
  refine ⟨⟨h.f.p.mods hm (fun x hx e => (h.na x e).2.1 hx), h.f.fr, ((h.f.e.mods _).trans hm (fun _ _ h => h)).ext_of (fun x hx e => by have := (h.na x e).1; omega)⟩, ho, h.ob.mods hm (fun x hx e => (h.na x e).2.2 hx), fun x hx => ?_, h.nb⟩
  rcases hn x hx with e | e
  · exact h.na x e
  · exact ⟨Nat.le_trans h.f.e.size e, fun hf => by have := h.f.p.lt hf; omega, fun hb => by have := h.ob.lt hb; omega⟩
set_option maxRecDepth 100000 in
set_option maxHeartbeats 12800000 in
theorem order_law (w : World) (n0 : Int) (v : Value) (L : List Wy) (move : Int) (hl : WyL w v L) : Calls Try.prog 5 #[.int .i64 n0, v, .int .i64 move] w (LawP w) := by
  obtain ⟨lA, lcap, rfl, hcap, hmax⟩ := hl.val
  have hLl : L.length ≤ 9223372036854775807 := Nat.le_trans hcap (Nat.le_trans hmax (by decide))
  have HLw := Lib.hid hl
  clear hl hcap hmax
  by_cases hr : n0 < 1 ∨ 20 < n0
  · go_enter Try.func5, Try.ntmps5
    by_cases h1 : n0 < 1
    · have hd : decide (n0 < 1) = true := by simpa using h1
      clear hr h1
      go_wp2_with (go_at_call 9; refine (shown_at _).mono ?_; rintro e wb ⟨rfl, hE⟩; have Hb := Lib.hid hE; clear hE)
      go_ret
      exact ⟨rfl, Hb.out⟩
    · have hd : decide (n0 < 1) = false := by simpa using h1
      have hd2 : decide (20 < n0) = true := by apply decide_eq_true; omega
      clear hr h1
      go_wp2_with (go_at_call 9; refine (shown_at _).mono ?_; rintro e wb ⟨rfl, hE⟩; have Hb := Lib.hid hE; clear hE)
      go_ret
      exact ⟨rfl, Hb.out⟩
  · obtain ⟨n, rfl⟩ : ∃ n : Nat, n0 = n := ⟨n0.toNat, by omega⟩
    have hn1 : 1 ≤ n := by omega
    have hn : n ≤ 20 := by omega
    have hd : decide ((n : Int) < 1) = false := by apply decide_eq_false; omega
    have hd2 : decide (20 < (n : Int)) = false := by apply decide_eq_false; omega
    clear hr
    go_enter Try.func5, Try.ntmps5
    go_upto_region 5 with (first
      | (go_at_call 9; refine (shown_at _).mono ?_; rintro e wb ⟨rfl, hE⟩; have Hb := Lib.hid hE; clear hE)
      | (go_at_call 21; refine (both_at _ n hn).mono ?_; rintro e wc ⟨v1, v2, rfl, hL1, hL2, hE⟩; have HL1 := Lib.hid hL1; have HL2 := Lib.hid hL2; have HEc := Lib.hid (Hb.out.trans hE); clear hL1 hL2 hE))
    obtain ⟨A1, cap1, hv1, -⟩ := HL1.out.val
    obtain ⟨A2, cap2, hv2, -⟩ := HL2.out.val
    rw [srcL_len] at hv1 hv2
    subst hv1
    subst hv2
    obtain ⟨jb, joff, rfl⟩ := src_addr HL1.out hn1
    obtain ⟨ib, ioff, rfl⟩ := src_addr HL2.out hn1
    clear Hb hd hd2
    go_wp2_with (go_at_call 10; refine (newF_at _ _).mono ?_; rintro e w5 ⟨c, mw, mb, rfl, hM, hE, hf⟩; have HF := Lib.hid (show FwI wc c mw mb (fw0 1) w5 from ⟨hM, hf, hE⟩); clear hM hE hf)
    go_loopw [11, 12, 13, 14] (fun va vb vm q wr => ∃ (k : Nat) (mv : Bool) (σ : FwSt) (a b : List Ms) (av bv : Value), av = va ∧ bv = vb ∧ vm = .bool mv ∧ q = .int .i64 k ∧ k ≤ L.length ∧ k ≤ 100 ∧ Hid (mv = true → move < k) ∧ Hid (OrdW wc c mw mb σ av a bv b wr) ∧ Hid (OrdI n k mv σ a b)) (fun _ _ _ q _ => L.length - (intOf q).toNat)
    case atStart => exact ⟨0, false, _, [], [], _, _, rfl, rfl, rfl, rfl, Nat.zero_le _, Nat.zero_le _, Lib.hid (fun h => by cases h), Lib.hid ⟨HF.out, Own.nil, Own.nil, fun x hx => by simp [Value.ownBlock] at hx, fun x hx => by simp [Value.ownBlock] at hx⟩, Lib.hid (OrdI.zero n)⟩
    case round =>
      clear HF
      obtain ⟨k, mv, σ0, a, b0, av, bv0, rfl, rfl, rfl, rfl, hkL, hk100, hmvk, hX0, hI0⟩ := hrel
      rcases (show (k < L.length ∧ k < 100) ∨ (k < L.length ∧ ¬ k < 100) ∨ ¬ k < L.length by omega) with hgo | hgo | hgo
      · obtain ⟨hlt, hlt2⟩ := hgo
        have hd1 : decide ((k : Int) < (L.length : Int)) = true := by apply decide_eq_true; omega
        have hd2 : decide ((k : Int) < 100) = true := by apply decide_eq_true; omega
        have hwk : IntKind.i64.wrap ((k : Int) + 1) = (k : Int) + 1 := IntWalk.i64_in _ ⟨by omega, by omega⟩
        obtain ⟨wb_, woff, rfl, hwbl0, -, -⟩ := Sl.atWy HLw.out hlt
        have HLtw := Lib.hid hlt
        obtain ⟨two, htwo⟩ : ∃ t, L[k].two = t := ⟨_, rfl⟩
        obtain ⟨ax, hax⟩ : ∃ t, L[k].at_ = t := ⟨_, rfl⟩
        have hway : ∀ W, Ext w W → wb_ < W.heap.size ∧ W.cell? ⟨wb_, woff + k * 2, none⟩ = some (.bool two) ∧ W.cell? ⟨wb_, woff + k * 2 + 1, none⟩ = some (.int .i64 ax) := fun W hW => by
          obtain ⟨b', o', e, h1, h2, h3⟩ := Sl.atWy (HLw.out.ext hW) hlt
          simp only [Option.some.injEq, Addr.mk.injEq, and_true] at e
          obtain ⟨rfl, rfl⟩ := e
          exact ⟨h1, by rw [← htwo]; exact h2, by rw [← hax]; exact h3⟩
        have Hway := Lib.hid hway
        have hwn : IntKind.u64.wrap (n : Int) = (n : Int) := by rw [IntKind.wrap_u64]; omega
        have hT0 : 0 ≤ IntKind.u64.wrap ax := by rw [IntKind.wrap_u64]; omega
        have hT1 := Int.tmod_nonneg (n : Int) hT0
        obtain ⟨kz, hT⟩ : ∃ T : Nat, (IntKind.u64.wrap ax).tmod (n : Int) = T := ⟨((IntKind.u64.wrap ax).tmod (n : Int)).toNat, by omega⟩
        have hkzl : kz < n := by have := Int.tmod_lt_of_pos (IntKind.u64.wrap ax) (show (0 : Int) < (n : Int) by omega); omega
        have hwT : IntKind.i64.wrap (kz : Int) = kz := IntWalk.i64_in _ ⟨by omega, by omega⟩
        obtain ⟨ux, hux⟩ : ∃ ux, IntKind.u64.wrap ax = ux := ⟨_, rfl⟩
        rw [hux] at hT hT0 hT1
        have hNz : ¬ (n : Int) = 0 := by omega
        have hNz2 : ((n : Int) == 0) = false := beq_false_of_ne hNz
        have hNz3 : ¬ n = 0 := by omega
        clear hT0 hT1 htwo hax hway hwbl0
        by_cases hmk : (k : Int) = move
        case' pos =>
          have hmvf : mv = false := by
            cases hm : mv with
            | false => rfl
            | true => exact absurd (hmvk.out hm) (by omega)
          subst hmvf
          have hbm : ((k : Int) == move) = true := by simp [hmk]
          obtain ⟨g1, g2⟩ := hI0.out.move
          obtain ⟨u1, u2, u3⟩ := hI0.out.wl (by omega)
          have hbl : b0.length + (moveX σ0 2).length ≤ 1073741824 := by have := g2.gb.1; rw [List.length_append] at this; omega
          obtain ⟨ml, hml⟩ : ∃ ml, (moveX σ0 2).length = ml := ⟨_, rfl⟩
          have G1 := Lib.hid g1
          have HI := Lib.hid g2
          have U := Lib.hid (And.intro u2 u3)
          have HBl := Lib.hid hbl
          have Hml := Lib.hid hml
          have Hmk : Hid (true = true → move < (k + 1 : Nat)) := Lib.hid (fun _ => by omega)
          clear g1 g2 u1 u2 u3 hbl hml hmk hmvk hI0
          go_upto_region 14 with fail
          refine wp_region_line [(0,0),(1,3),(2,0),(3,0),(4,0),(5,0),(6,0)] (by kernel_rfl) (by kernel_rfl) (Ext wr) (fun _ _ h k => h.trans k) (Ext.refl _) ?_
          first
            | refine Fx.skip rfl rfl (by simp only [List.set_cons_zero, List.set_cons_succ]; rfl) ?_
            | (with_reducible refine Fx.lab0 ?_
               first
                 | refine Fx.moveT rfl rfl rfl (by simp only [List.set_cons_zero, List.set_cons_succ]; rfl) ?_
                 | refine Fx.assignT rfl rfl rfl (by simp only [List.set_cons_zero, List.set_cons_succ]; rfl) ?_
                 | refine Fx.pure_ rfl rfl (fun _ => by go_simp; first | done | rfl) (by simp only [List.set_cons_zero, List.set_cons_succ]; rfl) ?_)
            | (with_reducible refine Fx.lab1 ?_
               refine Fx.look rfl rfl (fun w' hC => by obtain ⟨hc, hf, hl⟩ := Ext.cells hC; go_simp; rfl) (by simp only [List.set_cons_zero, List.set_cons_succ]; rfl) ?_)
          refine Fx.effBy (β := Option Addr × Nat) (fun p => .tuple #[.slice p.1 ml p.2, .int .i64 0]) (fun p w' => OrdW wc c mw mb (moveT σ0 2) av a bv0 b0 w' ∧ MsL w' (.slice p.1 ml p.2) (moveX σ0 2)) ⟨(none, 0)⟩ (fun _ _ _ h k => ⟨h.1.ext k, h.2.ext k⟩) rfl rfl (fun w' hC => ?_) (fun p => ?_)
          · unfold stepAt
            rw [show (execOp _ _).run Try.prog w' = .ok (.enter 12 #[.pointer (some ⟨c, 0, none⟩), .int .u32 2]) w' from by first | (go_simp; done) | (go_simp; rfl)]
            refine (move_any (hX0.out.f.p.ext hC) U.out.2 U.out.1 2).mono (fun e w'' hh => ?_)
            obtain ⟨nv, rfl, h1, h2, h3, h4⟩ := hh
            rw [G1.out]
            obtain ⟨A, cap, rfl, -⟩ := h1.val
            have h5 := h1.sl Ms.len
            rw [Hml.out] at h5 ⊢
            exact ⟨_, rfl, (A, cap), rfl, (hX0.out.ext hC).fw h2 h3, h5⟩
          simp only [List.set_cons_zero, List.set_cons_succ]
          iterate 5
            first
              | refine Fx.skip rfl rfl (by simp only [List.set_cons_zero, List.set_cons_succ]; rfl) ?_
              | (with_reducible refine Fx.lab0 ?_
                 first
                   | refine Fx.moveT rfl rfl rfl (by simp only [List.set_cons_zero, List.set_cons_succ]; rfl) ?_
                   | refine Fx.assignT rfl rfl rfl (by simp only [List.set_cons_zero, List.set_cons_succ]; rfl) ?_
                   | refine Fx.pure_ rfl rfl (fun _ => by go_simp; first | done | rfl) (by simp only [List.set_cons_zero, List.set_cons_succ]; rfl) ?_)
              | (with_reducible refine Fx.lab1 ?_
                 refine Fx.look rfl rfl (fun w' hC => by obtain ⟨hc, hf, hl⟩ := Ext.cells hC; go_simp; rfl) (by simp only [List.set_cons_zero, List.set_cons_succ]; rfl) ?_)
          refine Fx.done (fun w6 hC => ?_)
          have HX6 := Lib.hid hC
          clear hC
          go_upto_region 17 with fail
          refine wp_region_line [(0,0),(1,0),(2,3),(3,0)] (by kernel_rfl) (by kernel_rfl) (Ext w6) (fun _ _ h k => h.trans k) (Ext.refl _) ?_
          iterate 2
            first
              | refine Fx.skip rfl rfl (by simp only [List.set_cons_zero, List.set_cons_succ]; rfl) ?_
              | (with_reducible refine Fx.lab0 ?_
                 first
                   | refine Fx.moveT rfl rfl rfl (by simp only [List.set_cons_zero, List.set_cons_succ]; rfl) ?_
                   | refine Fx.assignT rfl rfl rfl (by simp only [List.set_cons_zero, List.set_cons_succ]; rfl) ?_
                   | refine Fx.pure_ rfl rfl (fun _ => by go_simp; first | done | rfl) (by simp only [List.set_cons_zero, List.set_cons_succ]; rfl) ?_)
              | (with_reducible refine Fx.lab1 ?_
                 refine Fx.look rfl rfl (fun w' hC => by obtain ⟨hc, hf, hl⟩ := Ext.cells hC; go_simp; rfl) (by simp only [List.set_cons_zero, List.set_cons_succ]; rfl) ?_)
          refine Fx.eff (fun v' w' => OrdW wc c mw mb (moveT σ0 2) av a v' (b0 ++ moveX σ0 2) w') (fun v _ _ h k => h.ext k) rfl rfl
            (fun w' hC => stepAt_mono (stepAt_append (Ext.refl w') (HX6.out.1.ob.ext hC) (HX6.out.2.ext hC) HBl.out rfl rfl) (fun v' w'' hh => (HX6.out.1.ext hC).putB hh.1 hh.2.1 hh.2.2)) (fun bv => ?_)
          simp only [List.set_cons_zero, List.set_cons_succ]
          first
            | refine Fx.skip rfl rfl (by simp only [List.set_cons_zero, List.set_cons_succ]; rfl) ?_
            | (with_reducible refine Fx.lab0 ?_
               first
                 | refine Fx.moveT rfl rfl rfl (by simp only [List.set_cons_zero, List.set_cons_succ]; rfl) ?_
                 | refine Fx.assignT rfl rfl rfl (by simp only [List.set_cons_zero, List.set_cons_succ]; rfl) ?_
                 | refine Fx.pure_ rfl rfl (fun _ => by go_simp; first | done | rfl) (by simp only [List.set_cons_zero, List.set_cons_succ]; rfl) ?_)
            | (with_reducible refine Fx.lab1 ?_
               refine Fx.look rfl rfl (fun w' hC => by obtain ⟨hc, hf, hl⟩ := Ext.cells hC; go_simp; rfl) (by simp only [List.set_cons_zero, List.set_cons_succ]; rfl) ?_)
          refine Fx.done (fun w7 hC => ?_)
          have HX := Lib.hid hC
          clear hC HX6 hX0 U HBl Hml hbm
          generalize moveT σ0 2 = σ at *
          generalize b0 ++ moveX σ0 2 = b at *
          go_upto_region 19 with fail
        case' neg =>
          have hbm : ((k : Int) == move) = false := by simp [hmk]
          have Hmk : Hid (mv = true → move < (k + 1 : Nat)) := Lib.hid (fun h => by have := hmvk.out h; omega)
          have HX := hX0
          have HI := hI0
          clear hmvk hmk hX0 hI0
          generalize σ0 = σ at *
          generalize b0 = b at *
          generalize hbv : bv0 = bv at *
          clear hbv
          go_upto_region 19 with fail
          obtain ⟨w7, hw7⟩ : ∃ w7, wr = w7 := ⟨_, rfl⟩
          rw [hw7] at HX ⊢
          cases mv
        all_goals
          obtain ⟨hwbl, q0, q1⟩ := Hway.out w7 (HEc.out.trans HX.out.f.e)
          refine wp_region_line [(0,0),(1,0),(2,0),(3,0),(4,1),(5,0),(6,0),(7,0),(8,0),(9,0),(10,0)] (by kernel_rfl) (by kernel_rfl) (Ext w7) (fun _ _ h k => h.trans k) (Ext.refl _) ?_
          iterate 11
            first
              | refine Fx.skip rfl rfl (by simp only [List.set_cons_zero, List.set_cons_succ]; rfl) ?_
              | (with_reducible refine Fx.lab0 ?_
                 first
                   | refine Fx.moveT rfl rfl rfl (by simp only [List.set_cons_zero, List.set_cons_succ]; rfl) ?_
                   | refine Fx.assignT rfl rfl rfl (by simp only [List.set_cons_zero, List.set_cons_succ]; rfl) ?_
                   | refine Fx.pure_ rfl rfl (fun _ => by go_simp; first | done | rfl) (by simp only [List.set_cons_zero, List.set_cons_succ]; rfl) ?_)
              | (with_reducible refine Fx.lab1 ?_
                 refine Fx.look rfl rfl (fun w' hC => by obtain ⟨hc, hf, hl⟩ := Ext.cells hC; go_simp; rfl) (by simp only [List.set_cons_zero, List.set_cons_succ]; rfl) ?_)
          refine Fx.done (fun w8 hC => ?_)
          have HX8 := Lib.hid (HX.out.ext hC)
          clear hC hwbl q0 q1 HX
          obtain ⟨hwbl, q0, q1⟩ := Hway.out w8 (HEc.out.trans HX8.out.f.e)
          cases two
          · obtain ⟨s1, s2⟩ := HI.out.one hn (by omega) hkzl
            obtain ⟨u1, u2, u3⟩ := HI.out.wl (by omega)
            have hal : a.length + (recvL σ (srcX 1 sM kz)).length ≤ 1073741824 := by have := s2.ga.1; rw [List.length_append] at this; omega
            obtain ⟨E, hE⟩ : ∃ E, recvE σ (srcX 1 sM kz) = E := ⟨_, rfl⟩
            obtain ⟨xl, hxl⟩ : ∃ xl, (recvL σ (srcX 1 sM kz)).length = xl := ⟨_, rfl⟩
            rw [hE] at s1
            simp at s1
            have HEe := Lib.hid s1
            clear s1
            have S1 := Lib.hid hE
            have S2 := Lib.hid s2
            have U := Lib.hid (And.intro u1 u2)
            have HAl := Lib.hid hal
            have Hxl := Lib.hid hxl
            obtain ⟨jc, jl⟩ := src_cell HL1.out HX8.out.f.e hkzl
            clear hE s2 u1 u2 u3 hal hxl HI
            go_upto_region 25 with fail
            refine wp_region_line [(0,0),(1,0),(2,0),(3,0),(4,1),(5,3),(6,0),(7,0),(8,0),(9,0),(10,0)] (by kernel_rfl) (by kernel_rfl) (Ext w8) (fun _ _ h k => h.trans k) (Ext.refl _) ?_
            iterate 4
              first
                | refine Fx.skip rfl rfl (by simp only [List.set_cons_zero, List.set_cons_succ]; rfl) ?_
                | (with_reducible refine Fx.lab0 ?_
                   first
                     | refine Fx.moveT rfl rfl rfl (by simp only [List.set_cons_zero, List.set_cons_succ]; rfl) ?_
                     | refine Fx.assignT rfl rfl rfl (by simp only [List.set_cons_zero, List.set_cons_succ]; rfl) ?_
                     | refine Fx.pure_ rfl rfl (fun _ => by go_simp; first | done | rfl) (by simp only [List.set_cons_zero, List.set_cons_succ]; rfl) ?_)
                | (with_reducible refine Fx.lab1 ?_
                   refine Fx.look rfl rfl (fun w' hC => by obtain ⟨hc, hf, hl⟩ := Ext.cells hC; go_simp; rfl) (by simp only [List.set_cons_zero, List.set_cons_succ]; rfl) ?_)
            refine Fx.look rfl rfl (op_load_Nb' (m := srcX 1 sM kz) jl jc rfl) (by simp only [List.set_cons_zero, List.set_cons_succ]; rfl) ?_
            refine Fx.effBy (β := Option Addr × Nat) (fun p => .tuple #[.slice p.1 xl p.2, .int .i64 E]) (fun p w' => OrdW wc c mw mb (recvS σ (srcX 1 sM kz)) av a bv b w' ∧ MsL w' (.slice p.1 xl p.2) (recvL σ (srcX 1 sM kz))) ⟨(none, 0)⟩ (fun _ _ _ h k => ⟨h.1.ext k, h.2.ext k⟩) rfl rfl (fun w' hC => ?_) (fun p9 => ?_)
            · unfold stepAt
              rw [show (execOp _ _).run Try.prog w' = .ok (.enter 14 #[.pointer (some ⟨c, 0, none⟩), (srcX 1 sM kz).val]) w' from by first | (go_simp; done) | (go_simp; rfl)]
              refine (recv_any (HX8.out.f.p.ext hC) U.out.1 U.out.2 (srcX 1 sM kz)).mono (fun e w'' hh => ?_)
              obtain ⟨nv, rfl, h1, h2, h3, h4⟩ := hh
              rw [S1.out]
              obtain ⟨A, cap, rfl, -⟩ := h1.val
              have h5 := h1.sl Ms.len
              rw [Hxl.out] at h5 ⊢
              exact ⟨_, rfl, (A, cap), rfl, (HX8.out.ext hC).fw h2 h3, h5⟩
            simp only [List.set_cons_zero, List.set_cons_succ]
            iterate 5
              first
                | refine Fx.skip rfl rfl (by simp only [List.set_cons_zero, List.set_cons_succ]; rfl) ?_
                | (with_reducible refine Fx.lab0 ?_
                   first
                     | refine Fx.moveT rfl rfl rfl (by simp only [List.set_cons_zero, List.set_cons_succ]; rfl) ?_
                     | refine Fx.assignT rfl rfl rfl (by simp only [List.set_cons_zero, List.set_cons_succ]; rfl) ?_
                     | refine Fx.pure_ rfl rfl (fun _ => by go_simp; first | done | rfl) (by simp only [List.set_cons_zero, List.set_cons_succ]; rfl) ?_)
                | (with_reducible refine Fx.lab1 ?_
                   refine Fx.look rfl rfl (fun w' hC => by obtain ⟨hc, hf, hl⟩ := Ext.cells hC; go_simp; rfl) (by simp only [List.set_cons_zero, List.set_cons_succ]; rfl) ?_)
            refine Fx.done (fun w9 hC => ?_)
            have HX9 := Lib.hid hC
            clear hC jc jl
            have hEe := HEe.out
            subst hEe
            go_upto_region 28 with fail
            refine wp_region_line [(0,0),(1,0),(2,3),(3,0)] (by kernel_rfl) (by kernel_rfl) (Ext w9) (fun _ _ h k => h.trans k) (Ext.refl _) ?_
            iterate 2
              first
                | refine Fx.skip rfl rfl (by simp only [List.set_cons_zero, List.set_cons_succ]; rfl) ?_
                | (with_reducible refine Fx.lab0 ?_
                   first
                     | refine Fx.moveT rfl rfl rfl (by simp only [List.set_cons_zero, List.set_cons_succ]; rfl) ?_
                     | refine Fx.assignT rfl rfl rfl (by simp only [List.set_cons_zero, List.set_cons_succ]; rfl) ?_
                     | refine Fx.pure_ rfl rfl (fun _ => by go_simp; first | done | rfl) (by simp only [List.set_cons_zero, List.set_cons_succ]; rfl) ?_)
                | (with_reducible refine Fx.lab1 ?_
                   refine Fx.look rfl rfl (fun w' hC => by obtain ⟨hc, hf, hl⟩ := Ext.cells hC; go_simp; rfl) (by simp only [List.set_cons_zero, List.set_cons_succ]; rfl) ?_)
            refine Fx.eff (fun v' w' => OrdW wc c mw mb (recvS σ (srcX 1 sM kz)) v' (a ++ recvL σ (srcX 1 sM kz)) bv b w') (fun v _ _ h k => h.ext k) rfl rfl
              (fun w' hC => stepAt_mono (stepAt_append (Ext.refl w') (HX9.out.1.oa.ext hC) (HX9.out.2.ext hC) HAl.out rfl rfl) (fun v' w'' hh => (HX9.out.1.ext hC).putA hh.1 hh.2.1 hh.2.2)) (fun av' => ?_)
            simp only [List.set_cons_zero, List.set_cons_succ]
            first
              | refine Fx.skip rfl rfl (by simp only [List.set_cons_zero, List.set_cons_succ]; rfl) ?_
              | (with_reducible refine Fx.lab0 ?_
                 first
                   | refine Fx.moveT rfl rfl rfl (by simp only [List.set_cons_zero, List.set_cons_succ]; rfl) ?_
                   | refine Fx.assignT rfl rfl rfl (by simp only [List.set_cons_zero, List.set_cons_succ]; rfl) ?_
                   | refine Fx.pure_ rfl rfl (fun _ => by go_simp; first | done | rfl) (by simp only [List.set_cons_zero, List.set_cons_succ]; rfl) ?_)
              | (with_reducible refine Fx.lab1 ?_
                 refine Fx.look rfl rfl (fun w' hC => by obtain ⟨hc, hf, hl⟩ := Ext.cells hC; go_simp; rfl) (by simp only [List.set_cons_zero, List.set_cons_succ]; rfl) ?_)
            refine Fx.done (fun w10 hC => ?_)
            have HX10 := Lib.hid hC
            clear hC
            go_wp2
            go_roundw
            case rel => exact ⟨k + 1, _, _, _, _, _, _, rfl, rfl, rfl, by go_num, by omega, by omega, Hmk, HX10, S2⟩
            case measure => simp [intOf]; omega
          · obtain ⟨s1, s2, s3⟩ := HI.out.two hn (by omega) hkzl
            obtain ⟨u1, u2, u3⟩ := HI.out.wl (by omega)
            have hal : b.length + (recvL σ (srcX 2 tM kz)).length ≤ 1073741824 := by have := s3.gb.1; rw [List.length_append] at this; omega
            obtain ⟨xl, hxl⟩ : ∃ xl, (recvL σ (srcX 2 tM kz)).length = xl := ⟨_, rfl⟩
            have S1 := Lib.hid s1
            have S3 := Lib.hid s3
            have U := Lib.hid (And.intro u1 u2)
            have HAl := Lib.hid hal
            have Hxl := Lib.hid hxl
            try
              have HX0 : Hid (xl = 0) := Lib.hid (by rw [← hxl, s2 rfl]; rfl)
            obtain ⟨jc, jl⟩ := src_cell HL2.out HX8.out.f.e hkzl
            clear s1 s2 s3 u1 u2 u3 hal hxl HI
            go_upto_region 21 with fail
            refine wp_region_line [(0,0),(1,0),(2,0),(3,0),(4,1),(5,3),(6,0),(7,0),(8,0),(9,0),(10,0)] (by kernel_rfl) (by kernel_rfl) (Ext w8) (fun _ _ h k => h.trans k) (Ext.refl _) ?_
            iterate 4
              first
                | refine Fx.skip rfl rfl (by simp only [List.set_cons_zero, List.set_cons_succ]; rfl) ?_
                | (with_reducible refine Fx.lab0 ?_
                   first
                     | refine Fx.moveT rfl rfl rfl (by simp only [List.set_cons_zero, List.set_cons_succ]; rfl) ?_
                     | refine Fx.assignT rfl rfl rfl (by simp only [List.set_cons_zero, List.set_cons_succ]; rfl) ?_
                     | refine Fx.pure_ rfl rfl (fun _ => by go_simp; first | done | rfl) (by simp only [List.set_cons_zero, List.set_cons_succ]; rfl) ?_)
                | (with_reducible refine Fx.lab1 ?_
                   refine Fx.look rfl rfl (fun w' hC => by obtain ⟨hc, hf, hl⟩ := Ext.cells hC; go_simp; rfl) (by simp only [List.set_cons_zero, List.set_cons_succ]; rfl) ?_)
            refine Fx.look rfl rfl (op_load_Nb' (m := srcX 2 tM kz) jl jc rfl) (by simp only [List.set_cons_zero, List.set_cons_succ]; rfl) ?_
            refine Fx.effBy (β := Option Addr × Nat) (fun p => .tuple #[.slice p.1 xl p.2, .int .i64 0]) (fun p w' => OrdW wc c mw mb (recvS σ (srcX 2 tM kz)) av a bv b w' ∧ MsL w' (.slice p.1 xl p.2) (recvL σ (srcX 2 tM kz))) ⟨(none, 0)⟩ (fun _ _ _ h k => ⟨h.1.ext k, h.2.ext k⟩) rfl rfl (fun w' hC => ?_) (fun p9 => ?_)
            · unfold stepAt
              rw [show (execOp _ _).run Try.prog w' = .ok (.enter 14 #[.pointer (some ⟨c, 0, none⟩), (srcX 2 tM kz).val]) w' from by first | (go_simp; done) | (go_simp; rfl)]
              refine (recv_any (HX8.out.f.p.ext hC) U.out.1 U.out.2 (srcX 2 tM kz)).mono (fun e w'' hh => ?_)
              obtain ⟨nv, rfl, h1, h2, h3, h4⟩ := hh
              rw [S1.out]
              obtain ⟨A, cap, rfl, -⟩ := h1.val
              have h5 := h1.sl Ms.len
              rw [Hxl.out] at h5 ⊢
              exact ⟨_, rfl, (A, cap), rfl, (HX8.out.ext hC).fw h2 h3, h5⟩
            simp only [List.set_cons_zero, List.set_cons_succ]
            iterate 5
              first
                | refine Fx.skip rfl rfl (by simp only [List.set_cons_zero, List.set_cons_succ]; rfl) ?_
                | (with_reducible refine Fx.lab0 ?_
                   first
                     | refine Fx.moveT rfl rfl rfl (by simp only [List.set_cons_zero, List.set_cons_succ]; rfl) ?_
                     | refine Fx.assignT rfl rfl rfl (by simp only [List.set_cons_zero, List.set_cons_succ]; rfl) ?_
                     | refine Fx.pure_ rfl rfl (fun _ => by go_simp; first | done | rfl) (by simp only [List.set_cons_zero, List.set_cons_succ]; rfl) ?_)
                | (with_reducible refine Fx.lab1 ?_
                   refine Fx.look rfl rfl (fun w' hC => by obtain ⟨hc, hf, hl⟩ := Ext.cells hC; go_simp; rfl) (by simp only [List.set_cons_zero, List.set_cons_succ]; rfl) ?_)
            refine Fx.done (fun w9 hC => ?_)
            have HX9 := Lib.hid hC
            clear hC jc jl
            try
              have hx0 := HX0.out
              subst hx0
            go_upto_region 24 with fail
            refine wp_region_line [(0,0),(1,0),(2,3),(3,0)] (by kernel_rfl) (by kernel_rfl) (Ext w9) (fun _ _ h k => h.trans k) (Ext.refl _) ?_
            iterate 2
              first
                | refine Fx.skip rfl rfl (by simp only [List.set_cons_zero, List.set_cons_succ]; rfl) ?_
                | (with_reducible refine Fx.lab0 ?_
                   first
                     | refine Fx.moveT rfl rfl rfl (by simp only [List.set_cons_zero, List.set_cons_succ]; rfl) ?_
                     | refine Fx.assignT rfl rfl rfl (by simp only [List.set_cons_zero, List.set_cons_succ]; rfl) ?_
                     | refine Fx.pure_ rfl rfl (fun _ => by go_simp; first | done | rfl) (by simp only [List.set_cons_zero, List.set_cons_succ]; rfl) ?_)
                | (with_reducible refine Fx.lab1 ?_
                   refine Fx.look rfl rfl (fun w' hC => by obtain ⟨hc, hf, hl⟩ := Ext.cells hC; go_simp; rfl) (by simp only [List.set_cons_zero, List.set_cons_succ]; rfl) ?_)
            refine Fx.eff (fun v' w' => OrdW wc c mw mb (recvS σ (srcX 2 tM kz)) av a v' (b ++ recvL σ (srcX 2 tM kz)) w') (fun v _ _ h k => h.ext k) rfl rfl
              (fun w' hC => stepAt_mono (stepAt_append (Ext.refl w') (HX9.out.1.ob.ext hC) (HX9.out.2.ext hC) HAl.out rfl rfl) (fun v' w'' hh => (HX9.out.1.ext hC).putB hh.1 hh.2.1 hh.2.2)) (fun bv' => ?_)
            simp only [List.set_cons_zero, List.set_cons_succ]
            first
              | refine Fx.skip rfl rfl (by simp only [List.set_cons_zero, List.set_cons_succ]; rfl) ?_
              | (with_reducible refine Fx.lab0 ?_
                 first
                   | refine Fx.moveT rfl rfl rfl (by simp only [List.set_cons_zero, List.set_cons_succ]; rfl) ?_
                   | refine Fx.assignT rfl rfl rfl (by simp only [List.set_cons_zero, List.set_cons_succ]; rfl) ?_
                   | refine Fx.pure_ rfl rfl (fun _ => by go_simp; first | done | rfl) (by simp only [List.set_cons_zero, List.set_cons_succ]; rfl) ?_)
              | (with_reducible refine Fx.lab1 ?_
                 refine Fx.look rfl rfl (fun w' hC => by obtain ⟨hc, hf, hl⟩ := Ext.cells hC; go_simp; rfl) (by simp only [List.set_cons_zero, List.set_cons_succ]; rfl) ?_)
            refine Fx.done (fun w10 hC => ?_)
            have HX10 := Lib.hid hC
            clear hC
            go_wp2
            go_roundw
            case rel => exact ⟨k + 1, _, _, _, _, _, _, rfl, rfl, rfl, by go_num, by omega, by omega, Hmk, HX10, S3⟩
            case measure => simp [intOf]; omega
      all_goals
        obtain ⟨hga1, hga2⟩ := hI0.out.ga
        obtain ⟨hgb1, hgb2⟩ := hI0.out.gb
        obtain ⟨al, hal⟩ : ∃ al, a.length = al := ⟨_, rfl⟩
        obtain ⟨bl, hbl⟩ : ∃ bl, b0.length = bl := ⟨_, rfl⟩
        obtain ⟨aA, acap, hav, -⟩ := hX0.out.oa.val
        obtain ⟨bA, bcap, hbv, -⟩ := hX0.out.ob.val
        rw [hal] at hav hga1
        rw [hbl] at hbv hgb1
        have HAs : Hid (∀ W j, Ext wr W → (hj : j < al) → ∃ bb off, aA = some ⟨bb, off, none⟩ ∧ bb < W.heap.size ∧ W.cell? ⟨bb, off + j * 3, none⟩ = some (.int .i64 (sM j).f) ∧ W.cell? ⟨bb, off + j * 3 + 1, none⟩ = some (.int .u32 (sM j).c) ∧ W.cell? ⟨bb, off + j * 3 + 2, none⟩ = some (.string (sM j).d)) := Lib.hid (fun W j hW hj => by
          have h1 := (hX0.out.oa.ext hW).sl Ms.len
          rw [hav] at h1
          obtain ⟨bb, off, e, h2, h3, h4, h5⟩ := Sl.at3 h1 (j := j) (by rw [hal]; exact hj)
          rw [hga2 j (by rw [hal]; exact hj)] at h3 h4 h5
          exact ⟨bb, off, e, h2, h3, h4, h5⟩)
        have HBs : Hid (∀ W j, Ext wr W → (hj : j < bl) → ∃ bb off, bA = some ⟨bb, off, none⟩ ∧ bb < W.heap.size ∧ W.cell? ⟨bb, off + j * 3, none⟩ = some (.int .i64 (tM j).f) ∧ W.cell? ⟨bb, off + j * 3 + 1, none⟩ = some (.int .u32 (tM j).c) ∧ W.cell? ⟨bb, off + j * 3 + 2, none⟩ = some (.string (tM j).d)) := Lib.hid (fun W j hW hj => by
          have h1 := (hX0.out.ob.ext hW).sl Ms.len
          rw [hbv] at h1
          obtain ⟨bb, off, e, h2, h3, h4, h5⟩ := Sl.at3 h1 (j := j) (by rw [hbl]; exact hj)
          rw [hgb2 j (by rw [hbl]; exact hj)] at h3 h4 h5
          exact ⟨bb, off, e, h2, h3, h4, h5⟩)
        have HEw := Lib.hid hX0.out.f.e
        subst hav
        subst hbv
        have hda : decide ((n : Int) < (al : Int)) = false := by apply decide_eq_false; omega
        have hdb : decide ((n : Int) < (bl : Int)) = false := by apply decide_eq_false; omega
        have hda2 : ¬ n < al := by omega
        have hdb2 : ¬ n < bl := by omega
        first
          | (have hd1 : decide ((k : Int) < (L.length : Int)) = true := by (apply decide_eq_true; omega)
             have hd2 : decide ((k : Int) < 100) = false := by (apply decide_eq_false; omega))
          | (have hd1 : decide ((k : Int) < (L.length : Int)) = false := by (apply decide_eq_false; omega))
        clear hga2 hgb2 hI0 hX0 hal hbl hmvk
        go_upto_region 29 with fail
        go_wp2
        generalize wr = wA at *
        go_loopw [22] (fun q wr => ∃ (j : Nat), q = .int .i64 j ∧ j ≤ al ∧ Hid (Ext wA wr)) (fun q _ => al - (intOf q).toNat)
        case atStart => exact ⟨0, rfl, Nat.zero_le _, Lib.hid (Ext.refl _)⟩
        case round =>
          obtain ⟨j, rfl, hj, hE⟩ := hrel
          by_cases hjl : j < al
          · have hdj : decide ((j : Int) < (al : Int)) = true := by apply decide_eq_true; omega
            have hwj : IntKind.i64.wrap ((j : Int) + 1) = (j : Int) + 1 := IntWalk.i64_in _ ⟨by omega, by omega⟩
            have hjn : j < n := by omega
            obtain ⟨bb, off, rfl, x0, x1, x2, x3⟩ := HAs.out wr j hE.out hjl
            obtain ⟨jc, jl⟩ := src_cell HL1.out (HEw.out.trans hE.out) (show j < n by omega)
            obtain ⟨y1, y2, y3⟩ := jc.ms
            replace y1 : wr.cell? ⟨jb, joff + j * 5 + 2, none⟩ = some (.int .i64 (sM j).f) := y1
            replace y2 : wr.cell? ⟨jb, joff + j * 5 + 2 + 1, none⟩ = some (.int .u32 (sM j).c) := y2
            replace y3 : wr.cell? ⟨jb, joff + j * 5 + 2 + 2, none⟩ = some (.string (sM j).d) := y3
            generalize sM j = m at *
            clear jc
            go_upto_region 34 with fail
            refine wp_region_plan [(0,0),(1,0),(2,0),(3,1),(4,0),(5,0),(6,0),(7,0),(8,1),(9,0)] (by kernel_rfl) (by kernel_rfl) (by kernel_rfl) (Ext wr) (fun _ _ h k => h.trans k) (Ext.drawn _ _) ?_
            iterate 3
              first
                | refine Fx.skip rfl rfl (by simp only [List.set_cons_zero, List.set_cons_succ]; rfl) ?_
                | (with_reducible refine Fx.lab0 ?_
                   first
                     | refine Fx.moveT rfl rfl rfl (by simp only [List.set_cons_zero, List.set_cons_succ]; rfl) ?_
                     | refine Fx.assignT rfl rfl rfl (by simp only [List.set_cons_zero, List.set_cons_succ]; rfl) ?_
                     | refine Fx.pure_ rfl rfl (fun _ => by go_simp; first | done | rfl) (by simp only [List.set_cons_zero, List.set_cons_succ]; rfl) ?_)
                | (with_reducible refine Fx.lab1 ?_
                   refine Fx.look rfl rfl (fun w' hC => by obtain ⟨hc, hf, hl⟩ := Ext.cells hC; go_simp; rfl) (by simp only [List.set_cons_zero, List.set_cons_succ]; rfl) ?_)
            refine Fx.look rfl rfl (op_load_Ms' (m := m) x0 x1 x2 x3 rfl) (by simp only [List.set_cons_zero, List.set_cons_succ]; rfl) ?_
            iterate 4
              first
                | refine Fx.skip rfl rfl (by simp only [List.set_cons_zero, List.set_cons_succ]; rfl) ?_
                | (with_reducible refine Fx.lab0 ?_
                   first
                     | refine Fx.moveT rfl rfl rfl (by simp only [List.set_cons_zero, List.set_cons_succ]; rfl) ?_
                     | refine Fx.assignT rfl rfl rfl (by simp only [List.set_cons_zero, List.set_cons_succ]; rfl) ?_
                     | refine Fx.pure_ rfl rfl (fun _ => by go_simp; first | done | rfl) (by simp only [List.set_cons_zero, List.set_cons_succ]; rfl) ?_)
                | (with_reducible refine Fx.lab1 ?_
                   refine Fx.look rfl rfl (fun w' hC => by obtain ⟨hc, hf, hl⟩ := Ext.cells hC; go_simp; rfl) (by simp only [List.set_cons_zero, List.set_cons_succ]; rfl) ?_)
            refine Fx.look rfl rfl (op_load_Ms' (m := m) jl y1 y2 y3 rfl) (by simp only [List.set_cons_zero, List.set_cons_succ]; rfl) ?_
            refine Fx.pure_ (v := .bool false) rfl rfl (fun w => by rw [op_neq_Ms m m rfl rfl]; simp) (by simp only [List.set_cons_zero, List.set_cons_succ]; rfl) ?_
            refine Fx.done (fun w3 hC => ?_)
            have HC := Lib.hid (hE.out.trans hC)
            clear hC x0 x1 x2 x3 jl y1 y2 y3
            go_wp2
            go_roundw
            case rel => exact ⟨j + 1, by go_num, by omega, HC⟩
            case measure => simp [intOf]; omega
          · have hdj : decide ((j : Int) < (al : Int)) = false := by apply decide_eq_false; omega
            go_wp2
            generalize wr = wB at *
            go_loopw [23] (fun q wr => ∃ (j : Nat), q = .int .i64 j ∧ j ≤ bl ∧ Hid (Ext wA wr)) (fun q _ => bl - (intOf q).toNat)
            case atStart => exact ⟨0, rfl, Nat.zero_le _, hE⟩
            case round =>
              clear hE
              obtain ⟨i, rfl, hi, hE⟩ := hrel
              by_cases hil : i < bl
              · have hdi : decide ((i : Int) < (bl : Int)) = true := by apply decide_eq_true; omega
                have hwi : IntKind.i64.wrap ((i : Int) + 1) = (i : Int) + 1 := IntWalk.i64_in _ ⟨by omega, by omega⟩
                have hin : i < n := by omega
                obtain ⟨bb, off, rfl, x0, x1, x2, x3⟩ := HBs.out wr i hE.out hil
                obtain ⟨jc, jl⟩ := src_cell HL2.out (HEw.out.trans hE.out) (show i < n by omega)
                obtain ⟨y1, y2, y3⟩ := jc.ms
                replace y1 : wr.cell? ⟨ib, ioff + i * 5 + 2, none⟩ = some (.int .i64 (tM i).f) := y1
                replace y2 : wr.cell? ⟨ib, ioff + i * 5 + 2 + 1, none⟩ = some (.int .u32 (tM i).c) := y2
                replace y3 : wr.cell? ⟨ib, ioff + i * 5 + 2 + 2, none⟩ = some (.string (tM i).d) := y3
                generalize tM i = m at *
                clear jc
                go_upto_region 39 with fail
                refine wp_region_plan [(0,0),(1,0),(2,0),(3,1),(4,0),(5,0),(6,0),(7,0),(8,1),(9,0)] (by kernel_rfl) (by kernel_rfl) (by kernel_rfl) (Ext wr) (fun _ _ h k => h.trans k) (Ext.drawn _ _) ?_
                iterate 3
                  first
                    | refine Fx.skip rfl rfl (by simp only [List.set_cons_zero, List.set_cons_succ]; rfl) ?_
                    | (with_reducible refine Fx.lab0 ?_
                       first
                         | refine Fx.moveT rfl rfl rfl (by simp only [List.set_cons_zero, List.set_cons_succ]; rfl) ?_
                         | refine Fx.assignT rfl rfl rfl (by simp only [List.set_cons_zero, List.set_cons_succ]; rfl) ?_
                         | refine Fx.pure_ rfl rfl (fun _ => by go_simp; first | done | rfl) (by simp only [List.set_cons_zero, List.set_cons_succ]; rfl) ?_)
                    | (with_reducible refine Fx.lab1 ?_
                       refine Fx.look rfl rfl (fun w' hC => by obtain ⟨hc, hf, hl⟩ := Ext.cells hC; go_simp; rfl) (by simp only [List.set_cons_zero, List.set_cons_succ]; rfl) ?_)
                refine Fx.look rfl rfl (op_load_Ms' (m := m) x0 x1 x2 x3 rfl) (by simp only [List.set_cons_zero, List.set_cons_succ]; rfl) ?_
                iterate 4
                  first
                    | refine Fx.skip rfl rfl (by simp only [List.set_cons_zero, List.set_cons_succ]; rfl) ?_
                    | (with_reducible refine Fx.lab0 ?_
                       first
                         | refine Fx.moveT rfl rfl rfl (by simp only [List.set_cons_zero, List.set_cons_succ]; rfl) ?_
                         | refine Fx.assignT rfl rfl rfl (by simp only [List.set_cons_zero, List.set_cons_succ]; rfl) ?_
                         | refine Fx.pure_ rfl rfl (fun _ => by go_simp; first | done | rfl) (by simp only [List.set_cons_zero, List.set_cons_succ]; rfl) ?_)
                    | (with_reducible refine Fx.lab1 ?_
                       refine Fx.look rfl rfl (fun w' hC => by obtain ⟨hc, hf, hl⟩ := Ext.cells hC; go_simp; rfl) (by simp only [List.set_cons_zero, List.set_cons_succ]; rfl) ?_)
                refine Fx.look rfl rfl (op_load_Ms' (m := m) jl y1 y2 y3 rfl) (by simp only [List.set_cons_zero, List.set_cons_succ]; rfl) ?_
                refine Fx.pure_ (v := .bool false) rfl rfl (fun w => by rw [op_neq_Ms m m rfl rfl]; simp) (by simp only [List.set_cons_zero, List.set_cons_succ]; rfl) ?_
                refine Fx.done (fun w3 hC => ?_)
                have HC := Lib.hid (hE.out.trans hC)
                clear hC x0 x1 x2 x3 jl y1 y2 y3
                go_wp2
                go_roundw
                case rel => exact ⟨i + 1, by go_num, by omega, HC⟩
                case measure => simp [intOf]; omega
              · have hdi : decide ((i : Int) < (bl : Int)) = false := by apply decide_eq_false; omega
                go_wp2
                go_ret
                exact ⟨rfl, (HEc.out.trans HEw.out).trans hE.out⟩
end Go.Proofs.Ytokljdkeegdniaa
