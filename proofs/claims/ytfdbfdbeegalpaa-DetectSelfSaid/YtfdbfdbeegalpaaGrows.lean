/-
  rostrumlaw07.DetectGrows: what it computes.
-/
import Derived.Test.YtfdbfdbeegalpaaHeard
namespace Go.Proofs.Ytfdbfdbeegalpaa
open Go.RowKit
attribute [local go_sem] Oper.semAt_some

theorem timeV_hear {σ : DSt} (hO : σ.Ok) (node n' t : Int) : timeV σ node ≤ timeV (hearS σ n' t) node := by
  unfold hearS
  split
  · rename_i h
    unfold timeV
    show (if 0 ≤ node ∧ node < (σ.n : Int) then _ else _) ≤ (if 0 ≤ node ∧ node < (σ.n : Int) then _ else _)
    split
    · simp only [updI]
      split
      · rename_i h1 h2
        rw [h2]
        have ht := hO.t1 n'.toNat
        have hs := hO.s0
        unfold hearX
        simp only
        split <;> omega
      · exact Int.le_refl _
    · exact Int.le_refl _
  · exact Int.le_refl _
theorem timeV_tick (σ : DSt) (node t : Int) : timeV (tickS σ t) node = timeV σ node := by
  unfold tickS
  split
  · unfold timeV
    show (if 0 ≤ node ∧ node < (σ.n : Int) then _ else _) = _
    split
    · exact (mark_h _ _ _).2
    · rfl
  · rfl
theorem timeV_most {σ : DSt} (hO : σ.Ok) (node : Int) : timeV σ node ≤ σ.most := by
  unfold timeV
  split
  · exact hO.t1 _
  · have := hO.f1; have := hO.f2; omega

set_option maxRecDepth 100000 in
set_option maxHeartbeats 3200000 in
theorem grows_at (w : World) (self n : Int) (q : Int × Int × Int) (v : Value) (l : List Ac) (hn : -9223372036854775808 ≤ n ∧ n ≤ 9223372036854775807) (hq1 : u64B q.1) (hq2 : u64B q.2.1) (hq3 : u64B q.2.2) (hl : AcL w v l) (hlw : ∀ x ∈ l, Ac.Wf x) :
    Calls Try.prog 5 #[.int .i64 self, .int .i64 n, btV q.1 q.2.1 q.2.2, v] w (LawP w) := by
  obtain ⟨first, most, step⟩ := q
  simp only at hq1 hq2 hq3 ⊢
  have hbox := Obj_.new w 35 #[.int .u64 first, .int .u64 most, .int .u64 step] (btF first most step) (by intro i hi; simp at hi; match i, hi with | 0, _ => rfl | 1, _ => rfl | 2, _ => rfl)
  have hE0 := Ext.alloc w (.cells #[.int .u64 first, .int .u64 most, .int .u64 step] 35)
  obtain ⟨A, cap, rfl, hcap, hmax⟩ := hl.val
  have HL := Lib.hid (hl.ext hE0)
  have HLW := Lib.hid hlw
  have HE := Lib.hid hE0
  have c0 := hbox.cell 0 (by simp)
  have c1 := hbox.cell 1 (by simp)
  have c2 := hbox.cell 2 (by simp)
  have cl := hbox.lt
  simp only [btF, List.getD_cons_zero, List.getD_cons_succ] at c0 c1 c2
  have hval : btV first most step = .agg #[.int .u64 first, .int .u64 most, .int .u64 step] := rfl
  have Q1 := Lib.hid hq1
  have Q2 := Lib.hid hq2
  have Q3 := Lib.hid hq3
  have Hn := Lib.hid hn
  rw [hval]
  clear hval hbox hE0 hl hlw hcap hmax hq1 hq2 hq3 hn
  go_enter Try.func5, Try.ntmps5
  generalize hW : w.alloc (.cells #[.int .u64 first, .int .u64 most, .int .u64 step] 35) = W at *
  go_upto_region 2 with (go_at_call 8; refine (shown_at _).mono ?_; rintro e w1 ⟨rfl, hE1⟩; have H1 := Lib.hid hE1; clear hE1)
  obtain ⟨xc, xf, xl⟩ := H1.out.cells
  replace c0 := (xc _ _ cl).trans c0
  replace c1 := (xc _ _ cl).trans c1
  replace c2 := (xc _ _ cl).trans c2
  replace cl := xl _ cl
  clear xc xf xl
  have HE1 := Lib.hid (HE.out.trans H1.out)
  obtain ⟨r, hr⟩ : ∃ r, newB self n first most step 0 = r := ⟨_, rfl⟩
  have HR := Lib.hid hr
  clear hr
  cases r with
  | false =>
    go_upto_region 3 with (go_at_call 14; refine (new_at _ self n first most step 0 Q2.out.1 Q3.out.1 (by decide) Hn.out).mono ?_; rintro e w2 (⟨-, rfl, hE2⟩ | ⟨h, -⟩) <;> first | (exact absurd (h.symm.trans HR.out) (by decide)) | skip; have HE2 := Lib.hid hE2; clear hE2)
    go_wp2
    go_ret
    exact ⟨rfl, HE1.out.trans HE2.out⟩
  | true =>
    go_upto_region 3 with (go_at_call 14; refine (new_at _ self n first most step 0 Q2.out.1 Q3.out.1 (by decide) Hn.out).mono ?_; rintro e w2 (⟨h, -, -⟩ | ⟨-, b, mb, rfl, hM, hE2, hb, hmb⟩) <;> first | (exact absurd (h.symm.trans HR.out) (by decide)) | skip; have HI : Hid (DetI w1 b mb (newS self.toNat n.toNat first most step 0) w2) := Lib.hid ⟨hM, hb, hmb, hE2⟩; clear hM hE2 hb hmb)
    have H0 : Hid ((newS self.toNat n.toNat first most step 0).Ok ∧ (newS self.toNat n.toNat first most step 0).most = most ∧ (newS self.toNat n.toNat first most step 0).now ≤ 0) := Lib.hid ⟨newS_ok (by
      have := HR.out
      unfold newB at this ⊢
      simp only [decide_eq_true_eq] at this ⊢
      omega) Q3.out.1 (by decide), rfl, by simp [newS]⟩
    generalize newS self.toNat n.toNat first most step 0 = σ0 at *
    clear c0 c2
    go_wp2
    go_loopw [12, 13] (fun q r wr => ∃ (k : Nat) (nw : Int) (σ : DSt), k ≤ l.length ∧ k ≤ 100 ∧ q = .int .u64 nw ∧ r = .int .i64 k ∧ 0 ≤ nw ∧ nw ≤ 1000 * k ∧ Hid (σ.Ok ∧ σ.most = most ∧ σ.now ≤ nw) ∧ Hid (DetI w1 b mb σ wr)) (fun _ r _ => l.length - (intOf r).toNat)
    case atStart => exact ⟨0, 0, σ0, Nat.zero_le _, by omega, rfl, rfl, by omega, by omega, H0, HI⟩
    case round =>
      obtain ⟨k, nw, σ, hk, hk100, rfl, rfl, hn0, hn1, hH, hI⟩ := hrel
      have hwk : IntKind.i64.wrap ((k : Int) + 1) = (k : Int) + 1 := IntWalk.i64_in _ ⟨by omega, by omega⟩
      by_cases hlt : k < l.length
      · by_cases hlt2 : k < 100
        · obtain ⟨jb, joff, rfl, hjb, j0, j1, j2⟩ := Sl.atA (HL.out.ext (H1.out.trans hI.out.ext)) hlt
          have hx := (HLW.out l[k] (List.getElem_mem hlt)).t
          obtain ⟨⟨xhear, xnode, xt, xabs⟩, hxx⟩ : ∃ x, l[k] = x := ⟨_, rfl⟩
          rw [hxx] at j0 j1 j2 hx
          simp only at j0 j1 j2 hx
          have hx0 := hx.1
          have hlt2I : (k : Int) < 100 := by omega
          obtain ⟨m, hm⟩ : ∃ m, xt.tmod 1000 = m := ⟨_, rfl⟩
          have hm0 : 0 ≤ m := by rw [← hm]; exact Int.tmod_nonneg _ hx0
          have hm1 : m < 1000 := by rw [← hm]; exact Int.tmod_lt_of_pos _ (by decide)
          have hwn : IntKind.u64.wrap (nw + m) = nw + m := IntWalk.u64_in _ ⟨by omega, by omega⟩
          clear hx hxx
          go_upto_region 9 with fail
          refine wp_region_line [(0,0),(1,0),(2,0),(3,0),(4,0),(5,1),(6,0),(7,0),(8,0)] (by kernel_rfl) (by kernel_rfl) (Ext wr) (fun _ _ h k => h.trans k) (Ext.refl _) ?_
          iterate 9
            first
              | refine Fx.skip rfl rfl (by simp only [List.set_cons_zero, List.set_cons_succ]; rfl) ?_
              | (with_reducible refine Fx.lab0 ?_
                 first
                   | refine Fx.moveT rfl rfl rfl (by simp only [List.set_cons_zero, List.set_cons_succ]; rfl) ?_
                   | refine Fx.assignT rfl rfl rfl (by simp only [List.set_cons_zero, List.set_cons_succ]; rfl) ?_
                   | refine Fx.pure_ rfl rfl (fun _ => by go_simp; first | done | rfl) (by simp only [List.set_cons_zero, List.set_cons_succ]; rfl) ?_)
              | (with_reducible refine Fx.lab1 ?_
                 refine Fx.look rfl rfl (fun w' hC => by obtain ⟨hc, hf, hl⟩ := Ext.cells hC; go_simp; rfl) (by simp only [List.set_cons_zero, List.set_cons_succ]; rfl) ?_)
          refine Fx.done (fun w3 hC => ?_)
          have HI3 := Lib.hid (hI.out.ext' hC)
          obtain ⟨xc, xf, xl⟩ := hC.cells
          replace j0 := (xc _ _ hjb).trans j0
          replace j1 := (xc _ _ hjb).trans j1
          replace hjb := xl _ hjb
          have hBl : w.heap.size < w1.heap.size := cl
          clear hC xc xf xl hm hwn j2
          obtain ⟨t, ht⟩ : ∃ t, nw + m = t := ⟨_, rfl⟩
          rw [ht]
          have Hok := Lib.hid hH.out.1
          have Hmo := Lib.hid hH.out.2.1
          have Hnow := Lib.hid hH.out.2.2
          go_upto_region 11 with (go_at_call 13; refine (timeout_at HI3.out.d xnode).mono ?_; rintro e w4 ⟨rfl, hE4⟩; have HE4 := Lib.hid hE4; clear hE4)
          obtain ⟨xc, xf, xl⟩ := HE4.out.cells
          replace j0 := (xc _ _ hjb).trans j0
          replace j1 := (xc _ _ hjb).trans j1
          replace hjb := xl _ hjb
          have HI4 := Lib.hid (HI3.out.ext' HE4.out)
          clear xc xf xl
          have hjb0 : jb < W.heap.size := by
            obtain ⟨jb', joff', e', hjb', _⟩ := Sl.atA HL.out hlt
            injection e' with e1
            injection e1 with e1
            omega
          have hbj : ¬ FD b mb jb := fun h => by
            have := HI4.out.fb; have := HI4.out.fm; have := H1.out.size
            rcases h with h | h <;> omega
          have hbB : ¬ FD b mb w.heap.size := fun h => by
            have := HI4.out.fb; have := HI4.out.fm
            rcases h with h | h <;> omega
          have hmc1 : w4.cell? ⟨w.heap.size, 1, none⟩ = some (.int .u64 most) := by
            have e1 : Ext w1 w4 := HI4.out.ext
            exact (e1.cells.1 _ _ cl).trans c1
          have hml : w.heap.size < w4.heap.size := by have := HI4.out.ext.size; omega
          obtain ⟨ov, hov⟩ : ∃ ov, timeV σ xnode = ov := ⟨_, rfl⟩
          have Hov := Lib.hid hov
          rw [hov]
          clear hov
          cases xhear with
          | true =>
            go_upto_region 14 with (go_at_call 10; refine (hear_at HI4.out.d Hok.out xnode t).mono ?_; rintro e w5 ⟨rfl, hD, hm⟩; have HI5 := Lib.hid (HI4.out.go hD hm); have HM5 := Lib.hid hm; clear hD hm)
            obtain ⟨xc, xf, xl⟩ := HM5.out.cells
            replace j1 := (xc _ _ hjb hbj).trans j1
            replace hmc1 := (xc _ _ hml hbB).trans hmc1
            replace hjb := xl _ hjb
            replace hml := xl _ hml
            clear xc xf xl j0
            obtain ⟨σ', hσ'⟩ : ∃ σ', hearS σ xnode t = σ' := ⟨_, rfl⟩
            have hge := timeV_hear Hok.out xnode xnode t
            have hok' := hear_ok Hok.out xnode t
            have hn' := hear_n σ xnode t
            have hnow : (hearS σ xnode t).now ≤ t := by
              unfold hearS
              split
              · exact Int.le_refl _
              · have := Hnow.out; omega
            rw [hσ'] at hge hok' hn' hnow HI5
            have hge2 : ov ≤ timeV σ' xnode := by rw [← Hov.out]; exact hge
            have hmost' : σ'.most = most := hn'.2.2.1.trans Hmo.out
            have hle2 : timeV σ' xnode ≤ most := by rw [← hmost']; exact timeV_most hok' xnode
            have Hst := Lib.hid (show σ'.Ok ∧ σ'.most = most ∧ σ'.now ≤ t from ⟨hok', hmost', hnow⟩)
            obtain ⟨iv, hiv⟩ : ∃ iv, timeV σ' xnode = iv := ⟨_, rfl⟩
            rw [hiv] at hge2 hle2
            have Hiv := Lib.hid hiv
            have q1 : decide (iv < ov) = false := by simp; omega
            have q2 : decide (most < iv) = false := by simp; omega
            clear hge hok' hn' hnow hmost' hiv hσ'
            go_upto_region 15 with (go_at_call 13; refine (timeout_at HI5.out.d xnode).mono ?_; rw [Hiv.out]; rintro e w6 ⟨rfl, hE6⟩; have HE6 := Lib.hid hE6; clear hE6)
            obtain ⟨xc, xf, xl⟩ := HE6.out.cells
            replace hmc1 := (xc _ _ hml).trans hmc1
            replace hml := xl _ hml
            have HI6 := Lib.hid (HI5.out.ext' HE6.out)
            clear xc xf xl j1
            go_wp2
            go_roundw
            case rel => exact ⟨k + 1, t, σ', by omega, by omega, rfl, by go_num, by omega, by push_cast; omega, Hst, HI6⟩
            case measure => simp [intOf]; omega
          | false =>
            go_upto_region 14 with (go_at_call 9; refine (tick_at HI4.out.d Hok.out t).mono ?_; rintro e w5 ⟨v, rfl, hL, hD, hm, hf⟩; have HI5 := Lib.hid (HI4.out.go hD hm); have HM5 := Lib.hid hm; clear hL hD hm hf)
            obtain ⟨xc, xf, xl⟩ := HM5.out.cells
            replace j1 := (xc _ _ hjb hbj).trans j1
            replace hmc1 := (xc _ _ hml hbB).trans hmc1
            replace hjb := xl _ hjb
            replace hml := xl _ hml
            clear xc xf xl j0
            obtain ⟨σ', hσ'⟩ : ∃ σ', tickS σ t = σ' := ⟨_, rfl⟩
            have hge := timeV_tick σ xnode t
            have hok' := tick_ok Hok.out t
            have hn' := tick_n σ t
            have hnow : (tickS σ t).now ≤ t := by
              unfold tickS
              split
              · exact Int.le_refl _
              · have := Hnow.out; omega
            rw [hσ'] at hge hok' hn' hnow HI5
            have hge2 : ov ≤ timeV σ' xnode := by rw [← Hov.out, hge]; exact Int.le_refl _
            have hmost' : σ'.most = most := hn'.2.2.1.trans Hmo.out
            have hle2 : timeV σ' xnode ≤ most := by rw [← hmost']; exact timeV_most hok' xnode
            have Hst := Lib.hid (show σ'.Ok ∧ σ'.most = most ∧ σ'.now ≤ t from ⟨hok', hmost', hnow⟩)
            obtain ⟨iv, hiv⟩ : ∃ iv, timeV σ' xnode = iv := ⟨_, rfl⟩
            rw [hiv] at hge2 hle2
            have Hiv := Lib.hid hiv
            have q1 : decide (iv < ov) = false := by simp; omega
            have q2 : decide (most < iv) = false := by simp; omega
            clear hge hok' hn' hnow hmost' hiv hσ'
            go_upto_region 15 with (go_at_call 13; refine (timeout_at HI5.out.d xnode).mono ?_; rw [Hiv.out]; rintro e w6 ⟨rfl, hE6⟩; have HE6 := Lib.hid hE6; clear hE6)
            obtain ⟨xc, xf, xl⟩ := HE6.out.cells
            replace hmc1 := (xc _ _ hml).trans hmc1
            replace hml := xl _ hml
            have HI6 := Lib.hid (HI5.out.ext' HE6.out)
            clear xc xf xl j1
            go_wp2
            go_roundw
            case rel => exact ⟨k + 1, t, σ', by omega, by omega, rfl, by go_num, by omega, by push_cast; omega, Hst, HI6⟩
            case measure => simp [intOf]; omega
        · have hk5 : k = 100 := by omega
          subst hk5
          go_wp2
          go_ret
          exact ⟨rfl, HE1.out.trans hI.out.ext⟩
      · go_wp2
        go_ret
        exact ⟨rfl, HE1.out.trans hI.out.ext⟩
end Go.Proofs.Ytfdbfdbeegalpaa
