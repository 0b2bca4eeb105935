/-
  rostrumlaw07.DetectSeldom: what it computes.
-/
import Derived.Test.YtfdbfdbeegalpaaHeard
namespace Go.Proofs.Ytfdbfdbeegalpaa
open Go.RowKit
attribute [local go_sem] Oper.semAt_some

/-- Behind a round: heard at nw, suspected c times so far. -/
structure SdI (σ : DSt) (first most step nw : Int) (c : Nat) : Prop where
  ok : σ.Ok
  n : σ.n = 2
  self : σ.self = 0
  mo : σ.most = most
  st : σ.step = step
  now : σ.now = nw
  s : (σ.nd 1).s = false
  h : (σ.nd 1).h = nw
  t : (σ.nd 1).t = min (first + step * c) most
  c0 : c = 0 ∨ first + step * ((c : Int) - 1) < most
theorem seldom_plain {σ : DSt} {first most step nw d : Int} {c : Nat} (h : SdI σ first most step nw c) (hs : 1 ≤ step) (h1 : 0 ≤ d) (h2 : d ≤ most) (h3 : nw + d ≤ maxT) :
    ∃ c' : Nat, tickE σ (nw + d) = 0 ∧ ((tickL σ (nw + d)).length : Int) = (c' : Int) - c ∧ c ≤ c' ∧ c' ≤ c + 1 ∧ hearE (tickS σ (nw + d)) 1 (nw + d) = 0 ∧ SdI (hearS (tickS σ (nw + d)) 1 (nw + d)) first most step (nw + d) c' := by
  have hp : passB σ (nw + d) = true := by
    unfold passB; rw [h.now, decide_eq_true_eq]; exact ⟨by omega, h3⟩
  have hTok := tick_ok h.ok (nw + d)
  have hHok := hear_ok hTok 1 (nw + d)
  have hT : tickS σ (nw + d) = { σ with now := nw + d, nd := mark σ.nd (lateL σ (nw + d)) } := by unfold tickS; rw [if_pos hp]
  have hn2 : nodeB (tickS σ (nw + d)) 1 = true := by unfold nodeB; rw [(tick_n _ _).1, h.n]; decide
  have hp2 : passB (tickS σ (nw + d)) (nw + d) = true := by rw [hT]; unfold passB; rw [decide_eq_true_eq]; exact ⟨Int.le_refl _, h3⟩
  have hH : hearS (tickS σ (nw + d)) 1 (nw + d) = { tickS σ (nw + d) with now := nw + d, nd := updI (tickS σ (nw + d)).nd 1 (hearX (tickS σ (nw + d)) ((tickS σ (nw + d)).nd 1) (nw + d)) } := by unfold hearS; rw [hn2, hp2]; rfl
  have hlate : lateL σ (nw + d) = if lateB σ (nw + d) 1 = true then [1] else [] := by
    unfold lateL
    rw [h.n]
    have h0 : lateB σ (nw + d) 0 = false := by unfold lateB; simp [h.self]
    show [0, 1].filter _ = _
    by_cases hl : lateB σ (nw + d) 1 = true
    · rw [if_pos hl]; simp [h0, hl]
    · rw [if_neg hl]; simp [h0, hl]
  have hl1 : lateB σ (nw + d) 1 = decide ((σ.nd 1).t < d) := by
    unfold lateB
    rw [h.s, h.h, h.self]
    have : nw + d - nw = d := by omega
    rw [this]
    simp
  have hE1 : tickE σ (nw + d) = 0 := by unfold tickE; rw [if_pos hp]
  have hE2 : hearE (tickS σ (nw + d)) 1 (nw + d) = 0 := by unfold hearE; rw [if_pos hn2, if_pos hp2]
  have hL : tickL σ (nw + d) = lateL σ (nw + d) := by unfold tickL; rw [if_pos hp]
  have ht := h.t
  by_cases hl : (σ.nd 1).t < d
  · have hb : lateB σ (nw + d) 1 = true := by rw [hl1]; simp [hl]
    rw [if_pos hb] at hlate
    have hlt : first + step * c < most := by omega
    refine ⟨c + 1, hE1, by rw [hL, hlate]; simp; omega, by omega, by omega, hE2, hHok, ?_, ?_, ?_, ?_, ?_, ?_, ?_, ?_, .inr ?_⟩
    · rw [(hear_n _ _ _).1, (tick_n _ _).1, h.n]
    · rw [(hear_n _ _ _).2.1, (tick_n _ _).2.1, h.self]
    · rw [(hear_n _ _ _).2.2.1, (tick_n _ _).2.2.1, h.mo]
    · rw [(hear_n _ _ _).2.2.2, (tick_n _ _).2.2.2, h.st]
    · rw [hH]
    · rw [hH]; simp [updI, hearX]
    · rw [hH]; simp [updI, hearX]
    · rw [hH]
      simp only [updI, if_true, hearX]
      have hs1 : ((tickS σ (nw + d)).nd 1).s = true := by rw [hT]; simp only [mark, hlate]; simp
      have ht1 : ((tickS σ (nw + d)).nd 1).t = (σ.nd 1).t := by rw [hT]; exact (mark_h _ _ _).2
      rw [if_pos hs1, ht1, (tick_n _ _).2.2.2, (tick_n _ _).2.2.1, h.st, h.mo, ht]
      push_cast
      rw [Int.mul_add, Int.mul_one]
      omega
    · push_cast
      have : (c : Int) + 1 - 1 = c := by omega
      rw [this]; exact hlt
  · have hb : lateB σ (nw + d) 1 = false := by rw [hl1]; simp [hl]
    rw [hb, if_neg (by decide)] at hlate
    refine ⟨c, hE1, by rw [hL, hlate]; simp, by omega, by omega, hE2, hHok, ?_, ?_, ?_, ?_, ?_, ?_, ?_, ?_, h.c0⟩
    · rw [(hear_n _ _ _).1, (tick_n _ _).1, h.n]
    · rw [(hear_n _ _ _).2.1, (tick_n _ _).2.1, h.self]
    · rw [(hear_n _ _ _).2.2.1, (tick_n _ _).2.2.1, h.mo]
    · rw [(hear_n _ _ _).2.2.2, (tick_n _ _).2.2.2, h.st]
    · rw [hH]
    · rw [hH]; simp [updI, hearX]
    · rw [hH]; simp [updI, hearX]
    · rw [hH]
      simp only [updI, if_true, hearX]
      have hs1 : ((tickS σ (nw + d)).nd 1).s = false := by rw [hT, hlate, mark_nil]; exact h.s
      have ht1 : ((tickS σ (nw + d)).nd 1).t = (σ.nd 1).t := by rw [hT]; exact (mark_h _ _ _).2
      rw [if_neg (by rw [hs1]; decide), ht1, ht]
theorem seldom_end {σ : DSt} {first most step nw : Int} {c : Nat} (h : SdI σ first most step nw c) (hf : 1 ≤ first) (hs : 1 ≤ step) (hm : 0 ≤ most) : (c : Int) ≤ most.tdiv step + 1 := by
  rw [Int.tdiv_eq_ediv_of_nonneg hm]
  have h0 : 0 ≤ most / step := Int.ediv_nonneg hm (by omega)
  rcases h.c0 with hc | hc
  · omega
  · have h1 : ((c : Int) - 1) * step ≤ most := by rw [Int.mul_comm]; omega
    have := (Int.le_ediv_iff_mul_le (by omega : 0 < step)).2 h1
    omega

set_option maxRecDepth 100000 in
set_option maxHeartbeats 3200000 in
theorem seldom_at (w : World) (q : Int × Int × Int) (v : Value) (l : List Int) (hq1 : u64B q.1) (hq2 : u64B q.2.1) (hq3 : u64B q.2.2) (hl : IL .u64 w v l) (hlw : ∀ x ∈ l, u64B x) :
    Calls Try.prog 6 #[btV q.1 q.2.1 q.2.2, v] w (LawP w) := by
  obtain ⟨first, most, step⟩ := q
  simp only at hq1 hq2 hq3 ⊢
  have hbox := Obj_.new w 35 #[.int .u64 first, .int .u64 most, .int .u64 step] (btF first most step) (by intro i hi; simp at hi; match i, hi with | 0, _ => rfl | 1, _ => rfl | 2, _ => rfl)
  have hE0 := Ext.alloc w (.cells #[.int .u64 first, .int .u64 most, .int .u64 step] 35)
  obtain ⟨A, cap, rfl, hcap, hmax⟩ := hl.val
  have HL := Lib.hid (hl.ext hE0)
  have HLW := Lib.hid hlw
  have HE := Lib.hid hE0
  have c0 := hbox.cell 0 (by simp)
  have c1 := hbox.cell 1 (by simp)
  have c2 := hbox.cell 2 (by simp)
  have cl := hbox.lt
  simp only [btF, List.getD_cons_zero, List.getD_cons_succ] at c0 c1 c2
  have hval : btV first most step = .agg #[.int .u64 first, .int .u64 most, .int .u64 step] := rfl
  have Q1 := Lib.hid hq1
  have Q2 := Lib.hid hq2
  have Q3 := Lib.hid hq3
  rw [hval]
  clear hval hbox hE0 hl hlw hcap hmax hq1 hq2 hq3
  go_enter Try.func6, Try.ntmps6
  generalize hW : w.alloc (.cells #[.int .u64 first, .int .u64 most, .int .u64 step] 35) = W at *
  go_upto_region 2 with (go_at_call 8; refine (shown_at _).mono ?_; rintro e w1 ⟨rfl, hE1⟩; have H1 := Lib.hid hE1; clear hE1)
  obtain ⟨xc, xf, xl⟩ := H1.out.cells
  replace c0 := (xc _ _ cl).trans c0
  replace c1 := (xc _ _ cl).trans c1
  replace c2 := (xc _ _ cl).trans c2
  replace cl := xl _ cl
  clear xc xf xl
  have HE1 := Lib.hid (HE.out.trans H1.out)
  obtain ⟨r, hr⟩ : ∃ r, newB 0 2 first most step 0 = r := ⟨_, rfl⟩
  have HR := Lib.hid hr
  clear hr
  cases r with
  | false =>
    go_upto_region 3 with (go_at_call 14; refine (new_at _ 0 2 first most step 0 Q2.out.1 Q3.out.1 (by decide) (by decide)).mono ?_; rintro e w2 (⟨-, rfl, hE2⟩ | ⟨h, -⟩) <;> first | (exact absurd (h.symm.trans HR.out) (by decide)) | skip; have HE2 := Lib.hid hE2; clear hE2)
    go_wp2
    go_ret
    exact ⟨rfl, HE1.out.trans HE2.out⟩
  | true =>
    go_upto_region 3 with (go_at_call 14; refine (new_at _ 0 2 first most step 0 Q2.out.1 Q3.out.1 (by decide) (by decide)).mono ?_; rintro e w2 (⟨h, -, -⟩ | ⟨-, b, mb, rfl, hM, hE2, hb, hmb⟩) <;> first | (exact absurd (h.symm.trans HR.out) (by decide)) | skip; have HI : Hid (DetI w1 b mb (newS 0 2 first most step 0) w2) := Lib.hid ⟨hM, hb, hmb, hE2⟩; clear hM hE2 hb hmb)
    have hfm : 1 ≤ first ∧ first ≤ most := by have := HR.out; unfold newB at this; simp only [decide_eq_true_eq] at this; omega
    have Hfm := Lib.hid hfm
    have H0 : Hid (SdI (newS 0 2 first most step 0) first most step 0 0) := Lib.hid ⟨newS_ok (self := 0) (n := 2) HR.out Q3.out.1 (by decide), rfl, rfl, rfl, rfl, rfl, rfl, rfl, by show first = _; simp; omega, .inl rfl⟩
    generalize newS 0 2 first most step 0 = σ0 at *
    obtain ⟨xc, xf, xl⟩ := HI.out.ext.cells
    replace c0 := (xc _ _ cl).trans c0
    have b1 := (xc _ _ cl).trans c1
    have b2 := (xc _ _ cl).trans c2
    have bl := xl _ cl
    clear xc xf xl hfm c0
    by_cases hs1 : step < 1
    · go_wp2
      go_ret
      exact ⟨rfl, HE1.out.trans HI.out.ext⟩
    · by_cases hm1 : 100000 < most
      · go_wp2
        go_ret
        exact ⟨rfl, HE1.out.trans HI.out.ext⟩
      · have hs1' : 1 ≤ step := by omega
        have hmm0 : 0 ≤ most := Q2.out.1
        have hm1' : most ≤ 100000 := by omega
        go_wp2
        clear b1 b2 bl
        go_loopw [8, 9, 10] (fun q s r wr => ∃ (k c : Nat) (nw : Int) (σ : DSt), k ≤ l.length ∧ k ≤ 200 ∧ q = .int .u64 nw ∧ s = .int .u64 c ∧ r = .int .i64 k ∧ 0 ≤ nw ∧ nw ≤ 100000 * k ∧ c ≤ k ∧ Hid (SdI σ first most step nw c) ∧ Hid (DetI w1 b mb σ wr)) (fun _ _ r _ => l.length - (intOf r).toNat)
        case atStart => exact ⟨0, 0, 0, σ0, Nat.zero_le _, by omega, rfl, rfl, rfl, by omega, by omega, by omega, H0, HI⟩
        case round =>
          obtain ⟨k, c, nw, σ, hk, hk200, rfl, rfl, rfl, hn0, hn1, hck, hH, hI⟩ := hrel
          have hwk : IntKind.i64.wrap ((k : Int) + 1) = (k : Int) + 1 := IntWalk.i64_in _ ⟨by omega, by omega⟩
          obtain ⟨xc, xf, xl⟩ := hI.out.ext.cells
          have b1 := (xc _ _ cl).trans c1
          have b2 := (xc _ _ cl).trans c2
          have bl := xl _ cl
          clear xc xf xl
          by_cases hlt : k < l.length
          · by_cases hlt2 : k < 200
            · obtain ⟨jb, joff, rfl, hjb, j0⟩ := Sl.at1 (HL.out.ext (H1.out.trans hI.out.ext)) hlt
              have hx := HLW.out l[k] (List.getElem_mem hlt)
              generalize l[k] = x at *
              have hx0 := hx.1
              have hlt2I : (k : Int) < 200 := by omega
              have hwm : IntKind.u64.wrap (most + 1) = most + 1 := IntWalk.u64_in _ ⟨by omega, by omega⟩
              have hnz : ¬ most + 1 = 0 := by omega
              have hnz2 : (most + 1 == 0) = false := by simp; omega
              obtain ⟨m, hm⟩ : ∃ m, x.tmod (most + 1) = m := ⟨_, rfl⟩
              have hm0 : 0 ≤ m := by rw [← hm]; exact Int.tmod_nonneg _ hx0
              have hm1 : m < most + 1 := by rw [← hm]; exact Int.tmod_lt_of_pos _ (by omega)
              have hwn : IntKind.u64.wrap (nw + m) = nw + m := IntWalk.u64_in _ ⟨by omega, by omega⟩
              clear hx
              go_upto_region 10 with fail
              refine wp_region_plan [(0,0),(1,0),(2,0),(3,0),(4,1),(5,0),(6,1),(7,0),(8,0),(9,0),(10,0)] (by kernel_rfl) (by kernel_rfl) (by kernel_rfl) (Ext wr) (fun _ _ h k => h.trans k) (Ext.drawn _ _) ?_
              iterate 11
                first
                  | refine Fx.skip rfl rfl (by simp only [List.set_cons_zero, List.set_cons_succ]; rfl) ?_
                  | (with_reducible refine Fx.lab0 ?_
                     first
                       | refine Fx.moveT rfl rfl rfl (by simp only [List.set_cons_zero, List.set_cons_succ]; rfl) ?_
                       | refine Fx.assignT rfl rfl rfl (by simp only [List.set_cons_zero, List.set_cons_succ]; rfl) ?_
                       | refine Fx.pure_ rfl rfl (fun _ => by go_simp; first | done | rfl) (by simp only [List.set_cons_zero, List.set_cons_succ]; rfl) ?_)
                  | (with_reducible refine Fx.lab1 ?_
                     refine Fx.look rfl rfl (fun w' hC => by obtain ⟨hc, hf, hl⟩ := Ext.cells hC; go_simp; rfl) (by simp only [List.set_cons_zero, List.set_cons_succ]; rfl) ?_)
              refine Fx.done (fun w3 hC => ?_)
              have HI3 := Lib.hid (hI.out.ext' hC)
              clear hC j0 hm hwn b1 b2 bl hwm hnz hnz2
              obtain ⟨c', p1, p2, p3, p4, p5, p6⟩ := seldom_plain hH.out hs1' hm0 (by omega) (by unfold maxT; omega)
              obtain ⟨t, ht⟩ : ∃ t, nw + m = t := ⟨_, rfl⟩
              rw [ht] at p1 p2 p5 p6 ⊢
              have P1 := Lib.hid p1
              have P2 := Lib.hid p2
              have P5 := Lib.hid p5
              have P6 := Lib.hid p6
              have Hok := Lib.hid hH.out.ok
              have Hok1 := Lib.hid (tick_ok hH.out.ok t)
              clear p1 p2 p5 p6
              go_upto_region 12 with (go_at_call 9; refine (tick_at HI3.out.d Hok.out t).mono ?_; rintro e w5 ⟨v, he, hL, hD, hm, hf⟩; rw [P1.out] at he; subst he; obtain ⟨vA, vcap, rfl, -⟩ := hL.val; have HI5 := Lib.hid (HI3.out.go hD hm); clear hL hD hm hf)
              obtain ⟨ln, hln⟩ : ∃ ln, (ints (tickL σ t)).length = ln := ⟨_, rfl⟩
              have hln2 : (ln : Int) = c' - c := by rw [← hln]; have := P2.out; simpa [ints] using this
              rw [hln]
              clear hln
              have hwl : IntKind.u64.wrap (ln : Int) = ln := IntWalk.u64_in _ ⟨by omega, by omega⟩
              have hwc : IntKind.u64.wrap ((c : Int) + ln) = c' := by rw [show (c : Int) + ln = c' by omega]; exact IntWalk.u64_in _ ⟨by omega, by omega⟩
              go_upto_region 14 with (go_at_call 10; refine (hear_at HI5.out.d Hok1.out 1 t).mono ?_; rintro e w6 ⟨he, hD, hm⟩; rw [P5.out] at he; subst he; have HI6 := Lib.hid (HI5.out.go hD hm); clear hD hm)
              go_wp2
              go_roundw
              case rel => exact ⟨k + 1, c', t, _, by omega, by omega, rfl, by first | rfl | rw [show (c : Int) + ((c' : Int) - c) = c' by omega], by go_num, by omega, by push_cast; omega, by omega, P6, HI6⟩
              case measure => simp [intOf]; omega
            · have hk5 : k = 200 := by omega
              subst hk5
              have he := seldom_end hH.out Hfm.out.1 hs1' hmm0
              obtain ⟨dv, hdv⟩ : ∃ dv, most.tdiv step = dv := ⟨_, rfl⟩
              have hdv0 : 0 ≤ dv := by rw [← hdv]; exact Int.tdiv_nonneg hmm0 (by omega)
              have hdv1 : dv ≤ 100000 := by rw [← hdv, Int.tdiv_eq_ediv_of_nonneg hmm0]; exact Int.le_trans (Int.ediv_le_self step hmm0) hm1'
              rw [hdv] at he
              have hwd : IntKind.u64.wrap dv = dv := IntWalk.u64_in _ ⟨by omega, by omega⟩
              have hwd1 : IntKind.u64.wrap (dv + 1) = dv + 1 := IntWalk.u64_in _ ⟨by omega, by omega⟩
              have hsz : ¬ step = 0 := by omega
              have hsz2 : (step == 0) = false := by simp; omega
              have hlec : decide ((c : Int) ≤ dv + 1) = true := by simp; omega
              go_wp2
              go_ret
              exact ⟨rfl, HE1.out.trans hI.out.ext⟩
          · skip
            have he := seldom_end hH.out Hfm.out.1 hs1' hmm0
            obtain ⟨dv, hdv⟩ : ∃ dv, most.tdiv step = dv := ⟨_, rfl⟩
            have hdv0 : 0 ≤ dv := by rw [← hdv]; exact Int.tdiv_nonneg hmm0 (by omega)
            have hdv1 : dv ≤ 100000 := by rw [← hdv, Int.tdiv_eq_ediv_of_nonneg hmm0]; exact Int.le_trans (Int.ediv_le_self step hmm0) hm1'
            rw [hdv] at he
            have hwd : IntKind.u64.wrap dv = dv := IntWalk.u64_in _ ⟨by omega, by omega⟩
            have hwd1 : IntKind.u64.wrap (dv + 1) = dv + 1 := IntWalk.u64_in _ ⟨by omega, by omega⟩
            have hsz : ¬ step = 0 := by omega
            have hsz2 : (step == 0) = false := by simp; omega
            have hlec : decide ((c : Int) ≤ dv + 1) = true := by simp; omega
            go_wp2
            go_ret
            exact ⟨rfl, HE1.out.trans hI.out.ext⟩
end Go.Proofs.Ytfdbfdbeegalpaa
