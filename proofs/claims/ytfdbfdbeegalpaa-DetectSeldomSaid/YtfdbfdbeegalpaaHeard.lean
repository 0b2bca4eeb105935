/-
  rostrumlaw07.DetectHeard: what it computes.
-/
import Derived.Test.YtfdbfdbeegalpaaShownD
import Derived.Test.YtfdbfdbeegalpaaOpenD
namespace Go.Proofs.Ytfdbfdbeegalpaa
open Go.RowKit
attribute [local go_sem] Oper.semAt_some

def LawP (w : World) (e : Ending) (w' : World) : Prop := e = .returned (.bool true) ∧ Ext w w'
structure DetI (w2 : World) (b mb : Nat) (σ : DSt) (w : World) : Prop where
  d : DetAt w b mb σ
  fb : w2.heap.size ≤ b
  fm : w2.heap.size ≤ mb
  ext : Ext w2 w
theorem DetI.ext' {w2 w w' : World} {b mb : Nat} {σ : DSt} (h : DetI w2 b mb σ w) (he : Ext w w') : DetI w2 b mb σ w' := ⟨h.d.ext he, h.fb, h.fm, h.ext.trans he⟩
theorem DetI.go {w2 w w' : World} {b mb : Nat} {σ σ' : DSt} (h : DetI w2 b mb σ w) (hd : DetAt w' b mb σ') (hm : Mods (FD b mb) w w') : DetI w2 b mb σ' w' :=
  ⟨hd, h.fb, h.fm, ((h.ext.mods (FD b mb)).trans hm (fun _ _ h => h)).ext_of (fun x hx e => by have := h.fb; have := h.fm; rcases e with e | e <;> omega)⟩
/-- Heard just now: nobody is late. -/
structure HdI (σ : DSt) (nw : Int) : Prop where
  ok : σ.Ok
  n : σ.n = 2
  self : σ.self = 0
  now : σ.now = nw
  s : ∀ i, i < 2 → (σ.nd i).s = false
theorem heard_plain {σ : DSt} {nw t : Int} (h : HdI σ nw) (h1 : nw ≤ t) (h2 : t ≤ maxT) :
    hearE σ 1 t = 0 ∧ tickE (hearS σ 1 t) t = 0 ∧ tickL (hearS σ 1 t) t = [] ∧ HdI (tickS (hearS σ 1 t) t) t ∧ susL (tickS (hearS σ 1 t) t) = [] := by
  have hn : nodeB σ 1 = true := by unfold nodeB; rw [h.n]; decide
  have hp : passB σ t = true := by unfold passB; rw [h.now]; simp [h1, h2]
  have hS : hearS σ 1 t = { σ with now := t, nd := updI σ.nd 1 (hearX σ (σ.nd 1) t) } := by unfold hearS; rw [hn, hp]; rfl
  have hO := hear_ok h.ok 1 t
  have hp2 : passB (hearS σ 1 t) t = true := by rw [hS]; unfold passB; simp [h2]
  have ht0 := hO.t0 1
  rw [hS] at ht0
  simp only [updI, if_true] at ht0
  have hx1 : (hearX σ (σ.nd 1) t).h = t := rfl
  have hlate : lateL (hearS σ 1 t) t = [] := by
    unfold lateL
    rw [hS]
    show (List.range σ.n).filter _ = []
    rw [h.n, List.filter_eq_nil_iff]
    intro i hi
    have hi2 : i < 2 := List.mem_range.1 hi
    unfold lateB
    match i, hi2 with
    | 0, _ => simp [h.self]
    | 1, _ =>
      simp only [updI, if_true, hx1, Int.sub_self]
      have : ¬ (hearX σ (σ.nd 1) t).t < 0 := by omega
      simp [this]
  have hT : tickS (hearS σ 1 t) t = { hearS σ 1 t with now := t } := by
    unfold tickS; rw [if_pos hp2, hlate, mark_nil]
  have hT2 : HdI (tickS (hearS σ 1 t) t) t := by
    refine ⟨tick_ok hO t, ?_, ?_, ?_, ?_⟩
    · rw [(tick_n _ _).1, (hear_n _ _ _).1, h.n]
    · rw [(tick_n _ _).2.1, (hear_n _ _ _).2.1, h.self]
    · rw [hT]
    · intro i hi
      rw [hT, hS]
      simp only [updI]
      split
      · rfl
      · exact h.s i hi
  refine ⟨by unfold hearE; rw [hn, hp]; rfl, by unfold tickE; rw [hp2]; rfl, by unfold tickL; rw [if_pos hp2, hlate], hT2, ?_⟩
  unfold susL
  rw [hT2.n, List.filter_eq_nil_iff]
  intro i hi
  simp [hT2.s i (List.mem_range.1 hi)]

set_option maxRecDepth 100000 in
set_option maxHeartbeats 3200000 in
theorem heard_at (w : World) (q : Int × Int × Int) (v : Value) (l : List Int) (hq1 : u64B q.1) (hq2 : u64B q.2.1) (hq3 : u64B q.2.2) (hl : IL .u64 w v l) (hlw : ∀ x ∈ l, u64B x) :
    Calls Try.prog 7 #[btV q.1 q.2.1 q.2.2, v] w (LawP w) := by
  obtain ⟨first, most, step⟩ := q
  simp only at hq1 hq2 hq3 ⊢
  have hbox := Obj_.new w 35 #[.int .u64 first, .int .u64 most, .int .u64 step] (btF first most step) (by intro i hi; simp at hi; match i, hi with | 0, _ => rfl | 1, _ => rfl | 2, _ => rfl)
  have hE0 := Ext.alloc w (.cells #[.int .u64 first, .int .u64 most, .int .u64 step] 35)
  obtain ⟨A, cap, rfl, hcap, hmax⟩ := hl.val
  have HL := Lib.hid (hl.ext hE0)
  have HLW := Lib.hid hlw
  have HE := Lib.hid hE0
  have c0 := hbox.cell 0 (by simp)
  have c1 := hbox.cell 1 (by simp)
  have c2 := hbox.cell 2 (by simp)
  have cl := hbox.lt
  simp only [btF, List.getD_cons_zero, List.getD_cons_succ] at c0 c1 c2
  have hval : btV first most step = .agg #[.int .u64 first, .int .u64 most, .int .u64 step] := rfl
  have Q1 := Lib.hid hq1
  have Q2 := Lib.hid hq2
  have Q3 := Lib.hid hq3
  rw [hval]
  clear hval hbox hE0 hl hlw hcap hmax hq1 hq2 hq3
  go_enter Try.func7, Try.ntmps7
  generalize hW : w.alloc (.cells #[.int .u64 first, .int .u64 most, .int .u64 step] 35) = W at *
  go_upto_region 2 with (go_at_call 8; refine (shown_at _).mono ?_; rintro e w1 ⟨rfl, hE1⟩; have H1 := Lib.hid hE1; clear hE1)
  obtain ⟨xc, xf, xl⟩ := H1.out.cells
  replace c0 := (xc _ _ cl).trans c0
  replace c1 := (xc _ _ cl).trans c1
  replace c2 := (xc _ _ cl).trans c2
  replace cl := xl _ cl
  clear xc xf xl
  have HE1 := Lib.hid (HE.out.trans H1.out)
  obtain ⟨r, hr⟩ : ∃ r, newB 0 2 first most step 0 = r := ⟨_, rfl⟩
  have HR := Lib.hid hr
  clear hr
  cases r with
  | false =>
    go_upto_region 3 with (go_at_call 14; refine (new_at _ 0 2 first most step 0 Q2.out.1 Q3.out.1 (by decide) (by decide)).mono ?_; rintro e w2 (⟨-, rfl, hE2⟩ | ⟨h, -⟩) <;> first | (exact absurd (h.symm.trans HR.out) (by decide)) | skip; have HE2 := Lib.hid hE2; clear hE2)
    go_wp2
    go_ret
    exact ⟨rfl, HE1.out.trans HE2.out⟩
  | true =>
    go_upto_region 3 with (go_at_call 14; refine (new_at _ 0 2 first most step 0 Q2.out.1 Q3.out.1 (by decide) (by decide)).mono ?_; rintro e w2 (⟨h, -, -⟩ | ⟨-, b, mb, rfl, hM, hE2, hb, hmb⟩) <;> first | (exact absurd (h.symm.trans HR.out) (by decide)) | skip; have HI : Hid (DetI w1 b mb (newS 0 2 first most step 0) w2) := Lib.hid ⟨hM, hb, hmb, hE2⟩; clear hM hE2 hb hmb)
    have H0 : Hid (HdI (newS 0 2 first most step 0) 0) := Lib.hid ⟨newS_ok (self := 0) (n := 2) HR.out Q3.out.1 (by decide), rfl, rfl, rfl, fun _ _ => rfl⟩
    generalize newS 0 2 first most step 0 = σ0 at *
    clear c0 c1 c2 cl
    go_wp2
    go_loopw [8, 9] (fun q r wr => ∃ (k : Nat) (nw : Int) (σ : DSt), k ≤ l.length ∧ k ≤ 50 ∧ q = .int .u64 nw ∧ r = .int .i64 k ∧ 0 ≤ nw ∧ nw ≤ 100000 * k ∧ Hid (HdI σ nw) ∧ Hid (DetI w1 b mb σ wr)) (fun _ r _ => l.length - (intOf r).toNat)
    case atStart => exact ⟨0, 0, σ0, Nat.zero_le _, by omega, rfl, rfl, by omega, by omega, H0, HI⟩
    case round =>
      obtain ⟨k, nw, σ, hk, hk50, rfl, rfl, hn0, hn1, hH, hI⟩ := hrel
      have hwk : IntKind.i64.wrap ((k : Int) + 1) = (k : Int) + 1 := IntWalk.i64_in _ ⟨by omega, by omega⟩
      by_cases hlt : k < l.length
      · by_cases hlt2 : k < 50
        · obtain ⟨jb, joff, rfl, hjb, j0⟩ := Sl.at1 (HL.out.ext (H1.out.trans hI.out.ext)) hlt
          have hx := HLW.out l[k] (List.getElem_mem hlt)
          generalize l[k] = x at *
          have hx0 := hx.1
          have hx1 := hx.2
          have hlt2I : (k : Int) < 50 := by omega
          clear hx
          go_upto_region 9 with fail
          refine wp_region_line [(0,0),(1,0),(2,0),(3,0),(4,1),(5,0),(6,0),(7,0)] (by kernel_rfl) (by kernel_rfl) (Ext wr) (fun _ _ h k => h.trans k) (Ext.refl _) ?_
          iterate 5
            first
              | refine Fx.skip rfl rfl (by simp only [List.set_cons_zero, List.set_cons_succ]; rfl) ?_
              | (with_reducible refine Fx.lab0 ?_
                 first
                   | refine Fx.moveT rfl rfl rfl (by simp only [List.set_cons_zero, List.set_cons_succ]; rfl) ?_
                   | refine Fx.assignT rfl rfl rfl (by simp only [List.set_cons_zero, List.set_cons_succ]; rfl) ?_
                   | refine Fx.pure_ rfl rfl (fun _ => by go_simp; first | done | rfl) (by simp only [List.set_cons_zero, List.set_cons_succ]; rfl) ?_)
              | (with_reducible refine Fx.lab1 ?_
                 refine Fx.look rfl rfl (fun w' hC => by obtain ⟨hc, hf, hl⟩ := Ext.cells hC; go_simp; rfl) (by simp only [List.set_cons_zero, List.set_cons_succ]; rfl) ?_)
          obtain ⟨m, hm⟩ : ∃ m, x.tmod 100000 = m := ⟨_, rfl⟩
          have hm0 : 0 ≤ m := by rw [← hm]; exact Int.tmod_nonneg _ hx0
          have hm1 : m < 100000 := by rw [← hm]; exact Int.tmod_lt_of_pos _ (by decide)
          have hwn : IntKind.u64.wrap (nw + m) = nw + m := IntWalk.u64_in _ ⟨by omega, by omega⟩
          iterate 3
            first
              | refine Fx.skip rfl rfl (by simp only [List.set_cons_zero, List.set_cons_succ]; rfl) ?_
              | (with_reducible refine Fx.lab0 ?_
                 first
                   | refine Fx.moveT rfl rfl rfl (by simp only [List.set_cons_zero, List.set_cons_succ]; rfl) ?_
                   | refine Fx.assignT rfl rfl rfl (by simp only [List.set_cons_zero, List.set_cons_succ]; rfl) ?_
                   | refine Fx.pure_ rfl rfl (fun _ => by go_simp; first | done | rfl) (by simp only [List.set_cons_zero, List.set_cons_succ]; rfl) ?_)
              | (with_reducible refine Fx.lab1 ?_
                 refine Fx.look rfl rfl (fun w' hC => by obtain ⟨hc, hf, hl⟩ := Ext.cells hC; go_simp; rfl) (by simp only [List.set_cons_zero, List.set_cons_succ]; rfl) ?_)
          refine Fx.done (fun w3 hC => ?_)
          have HI3 := Lib.hid (hI.out.ext' hC)
          clear hC j0 hm hwn
          obtain ⟨t, ht⟩ : ∃ t, nw + m = t := ⟨_, rfl⟩
          rw [ht]
          have hpl := heard_plain hH.out (t := t) (by omega) (by unfold maxT; omega)
          have HP := Lib.hid hpl
          have Hok := Lib.hid hH.out.ok
          have Hok1 := Lib.hid (hear_ok hH.out.ok 1 t)
          clear hpl
          go_upto_region 12 with (first
            | (go_at_call 10; refine (hear_at HI3.out.d Hok.out 1 t).mono ?_; rintro e w4 ⟨he, hD, hm⟩; rw [HP.out.1] at he; subst he; have HI4 := Lib.hid (HI3.out.go hD hm); clear hD hm)
            | (go_at_call 9; refine (tick_at HI4.out.d Hok1.out t).mono ?_; rintro e w5 ⟨v, he, hL, hD, hm, hf⟩; rw [HP.out.2.1] at he; subst he; rw [HP.out.2.2.1] at hL; obtain ⟨vA, vcap, rfl, -⟩ := hL.val; have HI5 := Lib.hid (HI4.out.go hD hm); clear hL hD hm hf))
          have HH5 := Lib.hid HP.out.2.2.2.1
          have HS5 := Lib.hid HP.out.2.2.2.2
          refine wp_region_line [(0,0),(1,0),(2,0),(3,0),(4,0),(5,0),(6,0),(7,0),(8,0),(9,0),(10,0),(11,0),(12,0),(13,2),(14,0),(15,0),(16,0)] (by kernel_rfl) (by kernel_rfl) (Ext w5) (fun _ _ h k => h.trans k) (Ext.refl _) ?_
          iterate 13
            first
              | refine Fx.skip rfl rfl (by simp only [List.set_cons_zero, List.set_cons_succ]; rfl) ?_
              | (with_reducible refine Fx.lab0 ?_
                 first
                   | refine Fx.moveT rfl rfl rfl (by simp only [List.set_cons_zero, List.set_cons_succ]; rfl) ?_
                   | refine Fx.assignT rfl rfl rfl (by simp only [List.set_cons_zero, List.set_cons_succ]; rfl) ?_
                   | refine Fx.pure_ rfl rfl (fun _ => by go_simp; first | done | rfl) (by simp only [List.set_cons_zero, List.set_cons_succ]; rfl) ?_)
              | (with_reducible refine Fx.lab1 ?_
                 refine Fx.look rfl rfl (fun w' hC => by obtain ⟨hc, hf, hl⟩ := Ext.cells hC; go_simp; rfl) (by simp only [List.set_cons_zero, List.set_cons_succ]; rfl) ?_)
          refine Fx.mkBy (β := Option Addr × Nat) (hi := ⟨(none, 0)⟩) (fun p => .slice p.1 0 p.2) (fun p w' => True) (fun p _ _ h k => trivial) rfl rfl (fun w' hC => ?_) (fun p => ?_)
          · unfold stepAt
            rw [show (execOp _ _).run Try.prog w' = .ok (.enter 12 #[.pointer (some ⟨b, 0, none⟩)]) w' from by first | (go_simp; done) | (go_simp; rfl)]
            exact (sus_at (HI5.out.d.ext hC) HH5.out.ok).mono (fun e w'' hh => by
              obtain ⟨v, rfl, h1, h2, h3⟩ := hh
              rw [HS5.out] at h1
              obtain ⟨A, cap, rfl, -⟩ := h1.val
              exact ⟨_, rfl, (A, cap), rfl, h2, trivial⟩)
          obtain ⟨sA, scap⟩ := p
          simp only [List.set_cons_zero, List.set_cons_succ]
          iterate 3
            first
              | refine Fx.skip rfl rfl (by simp only [List.set_cons_zero, List.set_cons_succ]; rfl) ?_
              | (with_reducible refine Fx.lab0 ?_
                 first
                   | refine Fx.moveT rfl rfl rfl (by simp only [List.set_cons_zero, List.set_cons_succ]; rfl) ?_
                   | refine Fx.assignT rfl rfl rfl (by simp only [List.set_cons_zero, List.set_cons_succ]; rfl) ?_
                   | refine Fx.pure_ rfl rfl (fun _ => by go_simp; first | done | rfl) (by simp only [List.set_cons_zero, List.set_cons_succ]; rfl) ?_)
              | (with_reducible refine Fx.lab1 ?_
                 refine Fx.look rfl rfl (fun w' hC => by obtain ⟨hc, hf, hl⟩ := Ext.cells hC; go_simp; rfl) (by simp only [List.set_cons_zero, List.set_cons_succ]; rfl) ?_)
          refine Fx.done (fun w6 hC => ?_)
          have HI6 := Lib.hid (HI5.out.ext' hC.1)
          clear hC
          go_wp2
          go_roundw
          case rel => exact ⟨k + 1, t, _, by omega, by omega, rfl, by go_num, by omega, by push_cast; omega, HH5, HI6⟩
          case measure => simp [intOf]; omega
        · have hk5 : k = 50 := by omega
          subst hk5
          go_wp2
          go_ret
          exact ⟨rfl, HE1.out.trans hI.out.ext⟩
      · go_wp2
        go_ret
        exact ⟨rfl, HE1.out.trans hI.out.ext⟩
end Go.Proofs.Ytfdbfdbeegalpaa
