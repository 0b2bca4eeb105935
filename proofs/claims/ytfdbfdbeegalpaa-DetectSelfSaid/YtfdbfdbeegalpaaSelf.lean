/-
  rostrumlaw07.DetectSelf: what it computes.
-/
import Derived.Test.YtfdbfdbeegalpaaGrows
namespace Go.Proofs.Ytfdbfdbeegalpaa
open Go.RowKit
attribute [local go_sem] Oper.semAt_some

theorem least (p : Nat → Bool) : ∀ n, p n = true → ∃ k, k ≤ n ∧ p k = true ∧ ∀ i, i < k → p i = false
  | 0, h => ⟨0, Nat.le_refl _, h, fun i hi => by omega⟩
  | n + 1, h => by
    by_cases hn : ∃ i, i ≤ n ∧ p i = true
    · obtain ⟨i, hi, hp⟩ := hn
      have : ∀ m, m ≤ n → p m = true → ∃ k, k ≤ n + 1 ∧ p k = true ∧ ∀ i, i < k → p i = false := by
        intro m
        induction m using Nat.strongRecOn with
        | _ m ih =>
          intro hm hpm
          by_cases hj : ∃ j, j < m ∧ p j = true
          · obtain ⟨j, hjm, hpj⟩ := hj; exact ih j hjm (by omega) hpj
          · refine ⟨m, by omega, hpm, fun i hi => ?_⟩
            cases hh : p i
            · rfl
            · exact absurd ⟨i, hi, hh⟩ hj
      exact this i hi hp
    · refine ⟨n + 1, Nat.le_refl _, h, fun i hi => ?_⟩
      cases hh : p i
      · rfl
      · exact absurd ⟨i, by omega, hh⟩ hn
structure LdS (σ : DSt) (k : Nat) : Prop where
  v : leadV σ = k
  le : k ≤ σ.self
  sus : ∀ i, i < k → (σ.nd i).s = true
  no : (σ.nd k).s = false
theorem lead_spec {σ : DSt} (hO : σ.Ok) : ∃ k, LdS σ k := by
  obtain ⟨k, h1, h2, h3⟩ := least (fun i => !(σ.nd i).s) σ.self (by simp [hO.ns])
  have hk : k < σ.n := Nat.lt_of_le_of_lt h1 hO.self
  refine ⟨k, ?_, h1, fun i hi => by simpa using h3 i hi, by simpa using h2⟩
  unfold leadV leadO
  rw [find_range hk h3 h2]
theorem sus_front {σ : DSt} {k : Nat} (hO : σ.Ok) (h : LdS σ k) : k ≤ (ints (susL σ)).length ∧ (∀ j (hj : j < (ints (susL σ)).length), (ints (susL σ))[j] ≠ (σ.self : Int) ∧ (ints (susL σ))[j] ≠ (k : Int) ∧ (j < k → (ints (susL σ))[j] = (j : Int))) := by
  have hk : k < σ.n := Nat.lt_of_le_of_lt h.le hO.self
  obtain ⟨m, hm⟩ : ∃ m, σ.n = k + m := ⟨σ.n - k, by omega⟩
  have e : susL σ = List.range k ++ ((List.range m).map (k + ·)).filter (fun i => (σ.nd i).s) := by
    unfold susL
    rw [hm, List.range_add, List.filter_append]
    congr 1
    rw [List.filter_eq_self]
    intro i hi
    exact h.sus i (List.mem_range.1 hi)
  refine ⟨by unfold ints; rw [List.length_map, e, List.length_append, List.length_range]; omega, fun j hj => ?_⟩
  have hj' : j < (susL σ).length := by simpa [ints] using hj
  have hg : (ints (susL σ))[j] = (((susL σ)[j] : Nat) : Int) := by simp [ints]
  have hmem : (susL σ)[j] ∈ susL σ := List.getElem_mem hj'
  have hs : (σ.nd (susL σ)[j]).s = true := by unfold susL at hmem; exact (List.mem_filter.1 hmem).2
  rw [hg]
  refine ⟨fun hh => ?_, fun hh => ?_, fun hjk => ?_⟩
  · have : (susL σ)[j] = σ.self := by omega
    rw [this, hO.ns] at hs; cases hs
  · have : (susL σ)[j] = k := by omega
    rw [this, h.no] at hs; cases hs
  · have : (susL σ)[j]? = some j := by
      rw [e, List.getElem?_append_left (by simpa using hjk)]
      simp [hjk]
    rw [List.getElem?_eq_getElem hj'] at this
    injection this with this
    omega

set_option maxRecDepth 100000 in
set_option maxHeartbeats 3200000 in
theorem self_at (w : World) (self n : Int) (q : Int × Int × Int) (v : Value) (l : List Ac) (hn : -9223372036854775808 ≤ n ∧ n ≤ 9223372036854775807) (hq1 : u64B q.1) (hq2 : u64B q.2.1) (hq3 : u64B q.2.2) (hl : AcL w v l) (hlw : ∀ x ∈ l, Ac.Wf x) :
    Calls Try.prog 4 #[.int .i64 self, .int .i64 n, btV q.1 q.2.1 q.2.2, v] w (LawP w) := by
  obtain ⟨first, most, step⟩ := q
  simp only at hq1 hq2 hq3 ⊢
  have hbox := Obj_.new w 35 #[.int .u64 first, .int .u64 most, .int .u64 step] (btF first most step) (by intro i hi; simp at hi; match i, hi with | 0, _ => rfl | 1, _ => rfl | 2, _ => rfl)
  have hE0 := Ext.alloc w (.cells #[.int .u64 first, .int .u64 most, .int .u64 step] 35)
  obtain ⟨A, cap, rfl, hcap, hmax⟩ := hl.val
  have HL := Lib.hid (hl.ext hE0)
  have HLW := Lib.hid hlw
  have HE := Lib.hid hE0
  have c0 := hbox.cell 0 (by simp)
  have c1 := hbox.cell 1 (by simp)
  have c2 := hbox.cell 2 (by simp)
  have cl := hbox.lt
  simp only [btF, List.getD_cons_zero, List.getD_cons_succ] at c0 c1 c2
  have hval : btV first most step = .agg #[.int .u64 first, .int .u64 most, .int .u64 step] := rfl
  have Q1 := Lib.hid hq1
  have Q2 := Lib.hid hq2
  have Q3 := Lib.hid hq3
  have Hn := Lib.hid hn
  rw [hval]
  clear hval hbox hE0 hl hlw hcap hmax hq1 hq2 hq3 hn
  go_enter Try.func4, Try.ntmps4
  generalize hW : w.alloc (.cells #[.int .u64 first, .int .u64 most, .int .u64 step] 35) = W at *
  go_upto_region 2 with (go_at_call 8; refine (shown_at _).mono ?_; rintro e w1 ⟨rfl, hE1⟩; have H1 := Lib.hid hE1; clear hE1)
  obtain ⟨xc, xf, xl⟩ := H1.out.cells
  replace c0 := (xc _ _ cl).trans c0
  replace c1 := (xc _ _ cl).trans c1
  replace c2 := (xc _ _ cl).trans c2
  replace cl := xl _ cl
  clear xc xf xl
  have HE1 := Lib.hid (HE.out.trans H1.out)
  obtain ⟨r, hr⟩ : ∃ r, newB self n first most step 0 = r := ⟨_, rfl⟩
  have HR := Lib.hid hr
  clear hr
  cases r with
  | false =>
    go_upto_region 3 with (go_at_call 14; refine (new_at _ self n first most step 0 Q2.out.1 Q3.out.1 (by decide) Hn.out).mono ?_; rintro e w2 (⟨-, rfl, hE2⟩ | ⟨h, -⟩) <;> first | (exact absurd (h.symm.trans HR.out) (by decide)) | skip; have HE2 := Lib.hid hE2; clear hE2)
    go_wp2
    go_ret
    exact ⟨rfl, HE1.out.trans HE2.out⟩
  | true =>
    obtain ⟨sn, rfl⟩ : ∃ sn : Nat, self = sn := ⟨self.toNat, by have := HR.out; unfold newB at this; simp only [decide_eq_true_eq] at this; omega⟩
    go_upto_region 3 with (go_at_call 14; refine (new_at _ sn n first most step 0 Q2.out.1 Q3.out.1 (by decide) Hn.out).mono ?_; rintro e w2 (⟨h, -, -⟩ | ⟨-, b, mb, rfl, hM, hE2, hb, hmb⟩) <;> first | (exact absurd (h.symm.trans HR.out) (by decide)) | skip; have HI : Hid (DetI w1 b mb (newS sn n.toNat first most step 0) w2) := Lib.hid ⟨hM, hb, hmb, hE2⟩; clear hM hE2 hb hmb)
    have H0 : Hid ((newS sn n.toNat first most step 0).Ok ∧ (newS sn n.toNat first most step 0).self = sn) := Lib.hid ⟨newS_ok (by
      have := HR.out
      unfold newB at this ⊢
      simp only [decide_eq_true_eq] at this ⊢
      omega) Q3.out.1 (by decide), rfl⟩
    generalize newS sn n.toNat first most step 0 = σ0 at *
    clear c0 c1 c2 cl
    go_wp2
    go_loopw [12, 13] (fun q r wr => ∃ (k : Nat) (nw : Int) (σ : DSt), k ≤ l.length ∧ k ≤ 100 ∧ q = .int .u64 nw ∧ r = .int .i64 k ∧ 0 ≤ nw ∧ nw ≤ 1000 * k ∧ Hid (σ.Ok ∧ σ.self = sn) ∧ Hid (DetI w1 b mb σ wr)) (fun _ r _ => l.length - (intOf r).toNat)
    case atStart => exact ⟨0, 0, σ0, Nat.zero_le _, by omega, rfl, rfl, by omega, by omega, H0, HI⟩
    case round =>
      obtain ⟨k, nw, σ, hk, hk100, rfl, rfl, hn0, hn1, hH, hI⟩ := hrel
      have hwk : IntKind.i64.wrap ((k : Int) + 1) = (k : Int) + 1 := IntWalk.i64_in _ ⟨by omega, by omega⟩
      by_cases hlt : k < l.length
      · by_cases hlt2 : k < 100
        · obtain ⟨jb, joff, rfl, hjb, j0, j1, j2⟩ := Sl.atA (HL.out.ext (H1.out.trans hI.out.ext)) hlt
          have hx := (HLW.out l[k] (List.getElem_mem hlt)).t
          obtain ⟨⟨xhear, xnode, xt, xabs⟩, hxx⟩ : ∃ x, l[k] = x := ⟨_, rfl⟩
          rw [hxx] at j0 j1 j2 hx
          simp only at j0 j1 j2 hx
          have hx0 := hx.1
          have hlt2I : (k : Int) < 100 := by omega
          obtain ⟨m, hm⟩ : ∃ m, xt.tmod 1000 = m := ⟨_, rfl⟩
          have hm0 : 0 ≤ m := by rw [← hm]; exact Int.tmod_nonneg _ hx0
          have hm1 : m < 1000 := by rw [← hm]; exact Int.tmod_lt_of_pos _ (by decide)
          have hwn : IntKind.u64.wrap (nw + m) = nw + m := IntWalk.u64_in _ ⟨by omega, by omega⟩
          clear hx hxx
          go_upto_region 9 with fail
          refine wp_region_line [(0,0),(1,0),(2,0),(3,0),(4,0),(5,1),(6,0),(7,0),(8,0)] (by kernel_rfl) (by kernel_rfl) (Ext wr) (fun _ _ h k => h.trans k) (Ext.refl _) ?_
          iterate 9
            first
              | refine Fx.skip rfl rfl (by simp only [List.set_cons_zero, List.set_cons_succ]; rfl) ?_
              | (with_reducible refine Fx.lab0 ?_
                 first
                   | refine Fx.moveT rfl rfl rfl (by simp only [List.set_cons_zero, List.set_cons_succ]; rfl) ?_
                   | refine Fx.assignT rfl rfl rfl (by simp only [List.set_cons_zero, List.set_cons_succ]; rfl) ?_
                   | refine Fx.pure_ rfl rfl (fun _ => by go_simp; first | done | rfl) (by simp only [List.set_cons_zero, List.set_cons_succ]; rfl) ?_)
              | (with_reducible refine Fx.lab1 ?_
                 refine Fx.look rfl rfl (fun w' hC => by obtain ⟨hc, hf, hl⟩ := Ext.cells hC; go_simp; rfl) (by simp only [List.set_cons_zero, List.set_cons_succ]; rfl) ?_)
          refine Fx.done (fun w3 hC => ?_)
          have HI3 := Lib.hid (hI.out.ext' hC)
          obtain ⟨xc, xf, xl⟩ := hC.cells
          replace j0 := (xc _ _ hjb).trans j0
          replace j1 := (xc _ _ hjb).trans j1
          replace hjb := xl _ hjb
          clear hC xc xf xl hm hwn j2
          obtain ⟨t, ht⟩ : ∃ t, nw + m = t := ⟨_, rfl⟩
          rw [ht]
          have Hok := Lib.hid hH.out.1
          have Hse := Lib.hid hH.out.2
          cases xhear with
          | true =>
            go_upto_region 13 with (go_at_call 10; refine (hear_at HI3.out.d Hok.out xnode t).mono ?_; rintro e w5 ⟨rfl, hD, hm⟩; have HI5 := Lib.hid (HI3.out.go hD hm); clear hD hm)
            have hok' := hear_ok Hok.out xnode t
            have hse' : (hearS σ xnode t).self = sn := (hear_n σ xnode t).2.1.trans Hse.out
            obtain ⟨σ', hσ'⟩ : ∃ σ', hearS σ xnode t = σ' := ⟨_, rfl⟩
            rw [hσ'] at hok' hse' HI5
            clear j0 j1
            obtain ⟨kk, hld⟩ := lead_spec hok'
            obtain ⟨f1, f2⟩ := sus_front hok' hld
            have hle := hld.le
            rw [hse'] at hle f2
            have Hok2 := Lib.hid hok'
            have Hse2 := Lib.hid hse'
            have Hv := Lib.hid hld.v
            have F2 := Lib.hid f2
            obtain ⟨SL, hSL⟩ : ∃ SL, ints (susL σ') = SL := ⟨_, rfl⟩
            rw [hSL] at f1 F2
            have HSL := Lib.hid hSL
            clear hok' hse' hld f2 hSL hσ'
            go_upto_region 15 with (first
              | (go_at_call 12; refine (sus_at HI5.out.d Hok2.out).mono ?_; rintro e w6 ⟨v, rfl, h1, h2, h3⟩; rw [HSL.out] at h1; obtain ⟨sA, scap, rfl, -⟩ := h1.val; have HV := Lib.hid h1; have HI6 := Lib.hid (HI5.out.ext' h2); clear h1 h2 h3)
              | (go_at_call 11; refine (lead_at HI6.out.d Hok2.out).mono ?_; rw [Hv.out]; rintro e w7 ⟨rfl, hE7⟩; have HE7 := Lib.hid hE7; clear hE7))
            have HI7 := Lib.hid (HI6.out.ext' HE7.out)
            have HV7 := Lib.hid (HV.out.ext HE7.out)
            have t1 : decide ((kk : Int) < 0) = false := by simp
            have t2 : decide ((sn : Int) < (kk : Int)) = false := by simp; omega
            have t3 : decide ((SL.length : Int) < (kk : Int)) = false := by simp; omega
            have t4 : decide (sn < kk) = false := by simp; omega
            have t5 : decide (SL.length < kk) = false := by simp; omega
            have hslen : SL.length ≤ 16 := by
              have h1 := HSL.out
              have h2 := flt_len (fun i => (σ'.nd i).s) σ'.n
              have h3 := Hok2.out.n16
              rw [← h1]; exact Nat.le_trans h2 h3
            go_wp2
            clear t1 t2 t3 t4 t5
            generalize wr = wO at *
            go_loopw [16] (fun q wx => ∃ j : Nat, j ≤ SL.length ∧ q = .int .i64 j ∧ Hid (Ext w7 wx)) (fun q _ => SL.length - (intOf q).toNat)
            case atStart => exact ⟨0, Nat.zero_le _, rfl, Lib.hid (Ext.refl _)⟩
            case round =>
              obtain ⟨j, hj, rfl, hEx⟩ := hrel
              have hwj : IntKind.i64.wrap ((j : Int) + 1) = (j : Int) + 1 := IntWalk.i64_in _ ⟨by omega, by omega⟩
              by_cases hjl : j < SL.length
              · obtain ⟨zb, zoff, rfl, hzb, z0⟩ := Sl.at1 ((HV7.out.ext hEx.out).sl (encI_len _)) hjl
                obtain ⟨g1, g2, g3⟩ := F2.out j hjl
                obtain ⟨x, hx⟩ : ∃ x, SL[j] = x := ⟨_, rfl⟩
                rw [hx] at z0 g1 g2 g3
                have u1 : (x == (sn : Int)) = false := by simp [g1]
                have u2 : (x == (kk : Int)) = false := by simp [g2]
                have G3 := Lib.hid g3
                clear g1 g2 g3 hx
                by_cases hjk : j < kk
                · have u3 : x = (j : Int) := G3.out hjk
                  have u4 : (x != (j : Int)) = false := by simp [u3]
                  have U3 := Lib.hid u3
                  clear u3
                  go_wp2
                  go_roundw
                  case rel => exact ⟨j + 1, by omega, by go_num, hEx⟩
                  case measure => simp [intOf]; omega
                · go_wp2
                  go_roundw
                  case rel => exact ⟨j + 1, by omega, by go_num, hEx⟩
                  case measure => simp [intOf]; omega
              · have HI8 := Lib.hid (HI7.out.ext' hEx.out)
                go_wp2
                go_roundw
                case rel => exact ⟨k + 1, t, σ', by omega, by omega, rfl, by go_num, by omega, by push_cast; omega, Lib.hid ⟨Hok2.out, Hse2.out⟩, HI8⟩
                case measure => simp [intOf]; omega
          | false =>
            go_upto_region 13 with (go_at_call 9; refine (tick_at HI3.out.d Hok.out t).mono ?_; rintro e w5 ⟨v, rfl, hL, hD, hm, hf⟩; have HI5 := Lib.hid (HI3.out.go hD hm); clear hL hD hm hf)
            have hok' := tick_ok Hok.out t
            have hse' : (tickS σ t).self = sn := (tick_n σ t).2.1.trans Hse.out
            obtain ⟨σ', hσ'⟩ : ∃ σ', tickS σ t = σ' := ⟨_, rfl⟩
            rw [hσ'] at hok' hse' HI5
            clear j0 j1
            obtain ⟨kk, hld⟩ := lead_spec hok'
            obtain ⟨f1, f2⟩ := sus_front hok' hld
            have hle := hld.le
            rw [hse'] at hle f2
            have Hok2 := Lib.hid hok'
            have Hse2 := Lib.hid hse'
            have Hv := Lib.hid hld.v
            have F2 := Lib.hid f2
            obtain ⟨SL, hSL⟩ : ∃ SL, ints (susL σ') = SL := ⟨_, rfl⟩
            rw [hSL] at f1 F2
            have HSL := Lib.hid hSL
            clear hok' hse' hld f2 hSL hσ'
            go_upto_region 15 with (first
              | (go_at_call 12; refine (sus_at HI5.out.d Hok2.out).mono ?_; rintro e w6 ⟨v, rfl, h1, h2, h3⟩; rw [HSL.out] at h1; obtain ⟨sA, scap, rfl, -⟩ := h1.val; have HV := Lib.hid h1; have HI6 := Lib.hid (HI5.out.ext' h2); clear h1 h2 h3)
              | (go_at_call 11; refine (lead_at HI6.out.d Hok2.out).mono ?_; rw [Hv.out]; rintro e w7 ⟨rfl, hE7⟩; have HE7 := Lib.hid hE7; clear hE7))
            have HI7 := Lib.hid (HI6.out.ext' HE7.out)
            have HV7 := Lib.hid (HV.out.ext HE7.out)
            have t1 : decide ((kk : Int) < 0) = false := by simp
            have t2 : decide ((sn : Int) < (kk : Int)) = false := by simp; omega
            have t3 : decide ((SL.length : Int) < (kk : Int)) = false := by simp; omega
            have t4 : decide (sn < kk) = false := by simp; omega
            have t5 : decide (SL.length < kk) = false := by simp; omega
            have hslen : SL.length ≤ 16 := by
              have h1 := HSL.out
              have h2 := flt_len (fun i => (σ'.nd i).s) σ'.n
              have h3 := Hok2.out.n16
              rw [← h1]; exact Nat.le_trans h2 h3
            go_wp2
            clear t1 t2 t3 t4 t5
            generalize wr = wO at *
            go_loopw [16] (fun q wx => ∃ j : Nat, j ≤ SL.length ∧ q = .int .i64 j ∧ Hid (Ext w7 wx)) (fun q _ => SL.length - (intOf q).toNat)
            case atStart => exact ⟨0, Nat.zero_le _, rfl, Lib.hid (Ext.refl _)⟩
            case round =>
              obtain ⟨j, hj, rfl, hEx⟩ := hrel
              have hwj : IntKind.i64.wrap ((j : Int) + 1) = (j : Int) + 1 := IntWalk.i64_in _ ⟨by omega, by omega⟩
              by_cases hjl : j < SL.length
              · obtain ⟨zb, zoff, rfl, hzb, z0⟩ := Sl.at1 ((HV7.out.ext hEx.out).sl (encI_len _)) hjl
                obtain ⟨g1, g2, g3⟩ := F2.out j hjl
                obtain ⟨x, hx⟩ : ∃ x, SL[j] = x := ⟨_, rfl⟩
                rw [hx] at z0 g1 g2 g3
                have u1 : (x == (sn : Int)) = false := by simp [g1]
                have u2 : (x == (kk : Int)) = false := by simp [g2]
                have G3 := Lib.hid g3
                clear g1 g2 g3 hx
                by_cases hjk : j < kk
                · have u3 : x = (j : Int) := G3.out hjk
                  have u4 : (x != (j : Int)) = false := by simp [u3]
                  have U3 := Lib.hid u3
                  clear u3
                  go_wp2
                  go_roundw
                  case rel => exact ⟨j + 1, by omega, by go_num, hEx⟩
                  case measure => simp [intOf]; omega
                · go_wp2
                  go_roundw
                  case rel => exact ⟨j + 1, by omega, by go_num, hEx⟩
                  case measure => simp [intOf]; omega
              · have HI8 := Lib.hid (HI7.out.ext' hEx.out)
                go_wp2
                go_roundw
                case rel => exact ⟨k + 1, t, σ', by omega, by omega, rfl, by go_num, by omega, by push_cast; omega, Lib.hid ⟨Hok2.out, Hse2.out⟩, HI8⟩
                case measure => simp [intOf]; omega
        · have hk5 : k = 100 := by omega
          subst hk5
          go_wp2
          go_ret
          exact ⟨rfl, HE1.out.trans hI.out.ext⟩
      · go_wp2
        go_ret
        exact ⟨rfl, HE1.out.trans hI.out.ext⟩
end Go.Proofs.Ytfdbfdbeegalpaa
