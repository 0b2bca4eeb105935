/-
  rostrumlaw12.BatchFull: what it computes.
-/
import Derived.Test.YtkkcdoajdhbofaaNoneQ
namespace Go.Proofs.Ytkkcdoajdhbofaa
open Go.RowKit
attribute [local go_sem] Oper.semAt_some

section
variable {a : Act} {d : Option Tmp} {p : Op} {t : TypeId} {s : String} {af : Array Edge} {g : Option (Nat × Bool)} {w2 wr w : World} {b mw md : Nat} {σ : PSt}
theorem stepAt_add (hI : PoolI w2 b mw md σ wr) (m : Ms) (hC : Ext wr w)
    (hr : (execOp a.eval ⟨d, p, t, s, af, g⟩).run Try.prog w = .ok (.enter 13 #[.pointer (some ⟨b, 0, none⟩), m.val]) w) :
    stepAt Try.prog ⟨d, p, t, s, af, g⟩ a w (fun u w' => u = .int .i64 (addE σ m) ∧ PoolI w2 b mw md (addS σ m) w' ∧ Mods (FP b mw md) wr w') := by
  unfold stepAt
  rw [hr]
  exact (add_at (hI.p.ext hC) hI.ok.len m).mono (fun e w3 hh => by
    obtain ⟨h1, h2, h3⟩ := hh
    exact ⟨_, h1, rfl, (hI.ext' hC).step h2 (add_ok hI.ok _) h3, h3.after hC⟩)
end
def idN (i : Nat) : Int × Int := (((i % 16 : Nat) : Int), ((i / 16 : Nat) : Int) + 1)
def msN (i : Nat) : Ms := mMsg ((i % 16 : Nat) : Int) (((i / 16 : Nat) : Int) + 1)
def fulS (k : Nat) : PSt := (List.range k).foldl (fun σ i => addS σ (msN i)) p0
theorem fulS_zero : fulS 0 = p0 := rfl
theorem fulS_succ (k : Nat) : fulS (k + 1) = addS (fulS k) (msN k) := by unfold fulS; rw [List.range_succ, List.foldl_append]; rfl
theorem idN_inj {i j : Nat} (h : idN i = idN j) : i = j := by
  unfold idN at h
  injection h with h1 h2
  omega
theorem rightB_iff' {m : Ms} : rightB m = true ↔ (0 ≤ m.f ∧ m.f < 16 ∧ 1 ≤ m.c ∧ m.c ≤ 4294967294 ∧ m.d.size ≤ 1000) := by unfold rightB; simp
theorem msN_right {i : Nat} (h : i ≤ 2000) : rightB (msN i) = true := by
  rw [rightB_iff']
  unfold msN mMsg
  refine ⟨by simp only; omega, by simp only; omega, by simp only; omega, by simp only; omega, (by show (1 : Nat) ≤ 1000; omega)⟩
def lastE (k : Nat) : Int := if k = 0 then 0 else if k ≤ 1000 then 0 else 120
theorem lastE_succ (k : Nat) : lastE (k + 1) = if k < 1000 then 0 else 120 := by
  unfold lastE
  by_cases h : k < 1000
  · rw [if_neg (by omega), if_pos (by omega), if_pos h]
  · rw [if_neg (by omega), if_neg (by omega), if_neg h]
theorem ful_inv : ∀ k, k ≤ 2000 → (fulS k).wt.map (·.1) = (List.range (min k 1000)).map idN ∧ (fulS k).dn = []
  | 0, _ => ⟨rfl, rfl⟩
  | k + 1, hk => by
    obtain ⟨h1, h2⟩ := ful_inv k (by omega)
    have hlen : (fulS k).wt.length = min k 1000 := by have := congrArg List.length h1; simpa using this
    have hnone : kfind (idN k) (fulS k).wt = none := by
      rw [kfind_none, h1]
      intro h
      obtain ⟨j, hj, e⟩ := List.mem_map.1 h
      have := idN_inj e
      rw [List.mem_range] at hj
      omega
    have hhas : hasP (fulS k) (keyM (msN k)) = false := by
      unfold hasP isB
      rw [h2, show keyM (msN k) = idN k from rfl, hnone]; rfl
    rw [fulS_succ]
    unfold addS
    rw [msN_right (by omega), hhas, hlen]
    simp only [if_true, Bool.false_eq_true, if_false]
    by_cases h : 1000 ≤ min k 1000
    · rw [if_pos h, show min (k + 1) 1000 = min k 1000 by omega]; exact ⟨h1, h2⟩
    · rw [if_neg h, show keyM (msN k) = idN k from rfl]
      refine ⟨?_, h2⟩
      simp only
      rw [kput_new hnone, show min (k + 1) 1000 = min k 1000 + 1 by omega, List.range_succ, List.map_append, List.map_append, h1, show min k 1000 = k by omega]
      rfl
theorem ful_len (k : Nat) (h : k ≤ 2000) : (fulS k).wt.length = min k 1000 := by have := congrArg List.length (ful_inv k h).1; simpa using this
theorem ful_addE (k : Nat) (hk : k ≤ 1999) : addE (fulS k) (msN k) = if k < 1000 then 0 else 120 := by
  obtain ⟨h1, h2⟩ := ful_inv k (by omega)
  have hnone : kfind (idN k) (fulS k).wt = none := by
    rw [kfind_none, h1]
    intro h
    obtain ⟨j, hj, e⟩ := List.mem_map.1 h
    have := idN_inj e
    rw [List.mem_range] at hj
    omega
  have hhas : hasP (fulS k) (keyM (msN k)) = false := by
    unfold hasP isB
    rw [h2, show keyM (msN k) = idN k from rfl, hnone]; rfl
  unfold addE
  rw [msN_right (by omega), hhas, ful_len k (by omega)]
  simp only [if_true, Bool.false_eq_true, if_false]
  by_cases h : k < 1000
  · rw [if_pos h, if_neg (by omega)]
  · rw [if_neg h, if_pos (by omega)]
theorem ful_again (k : Nat) (hk : k ≤ 1999) (h0 : 0 < k) : addE (fulS k) (mMsg 0 1) = 0 ∧ addS (fulS k) (mMsg 0 1) = fulS k := by
  obtain ⟨h1, h2⟩ := ful_inv k (by omega)
  have hsome : (kfind (idN 0) (fulS k).wt).isSome = true := by
    refine Classical.byContradiction fun hc => ?_
    have : kfind (idN 0) (fulS k).wt = none := by simpa using hc
    rw [kfind_none, h1] at this
    exact this (List.mem_map.2 ⟨0, List.mem_range.2 (by omega), rfl⟩)
  have hhas : hasP (fulS k) (keyM (mMsg 0 1)) = true := by
    unfold hasP
    rw [show keyM (mMsg 0 1) = idN 0 from rfl, hsome]; rfl
  have hr : rightB (mMsg 0 1) = true := by kernel_rfl
  unfold addE addS
  rw [hr, hhas]
  exact ⟨rfl, rfl⟩

set_option maxRecDepth 100000 in
set_option maxHeartbeats 3200000 in
theorem full_law (w : World) (n : Int) : Calls Try.prog 8 #[.int .i64 n] w (LawP w) := by
  go_enter Try.func8, Try.ntmps8
  go_upto_region 2 with (go_at_call 10; refine (shown_at _).mono ?_; rintro e w1 ⟨rfl, hE1⟩; have H1 := Lib.hid hE1; clear hE1)
  by_cases hn : 990 ≤ n ∧ n ≤ 1010
  · obtain ⟨hn1, hn2⟩ := hn
    obtain ⟨N, rfl⟩ : ∃ N : Nat, n = N := ⟨n.toNat, by omega⟩
    have t1 : decide ((N : Int) < 990) = false := by simp; omega
    have t2 : decide (1010 < (N : Int)) = false := by simp; omega
    have t3 : decide (N < 990) = false := by simp; omega
    have t4 : decide (1010 < N) = false := by simp; omega
    go_upto_region 5 with (go_at_call 11; refine (new_at _).mono ?_; rintro e w2 ⟨b, mw, md, rfl, hM, hE, hf⟩; have HI := Lib.hid (PoolI.new hM hE hf); clear hM hE hf)
    clear t1 t2 t3 t4
    go_wp2
    go_loopw [5, 6] (fun l q wr => ∃ (k : Nat), k ≤ N ∧ q = .int .i64 k ∧ l = .int .i64 (lastE k) ∧ Hid (PoolI w1 b mw md (fulS k) wr)) (fun _ q _ => N - (intOf q).toNat)
    case atStart => exact ⟨0, Nat.zero_le _, rfl, rfl, HI⟩
    case round =>
      obtain ⟨k, hk, rfl, rfl, hI⟩ := hrel
      by_cases hlt : k < N
      · have hwk : IntKind.i64.wrap ((k : Int) + 1) = (k : Int) + 1 := IntWalk.i64_in _ ⟨by omega, by omega⟩
        obtain ⟨f, hf⟩ : ∃ f, k % 16 = f := ⟨_, rfl⟩
        obtain ⟨c, hc⟩ : ∃ c, k / 16 = c := ⟨_, rfl⟩
        have hr1 : (k : Int).tmod 16 = (f : Int) := by rw [← hf, Int.tmod_eq_emod_of_nonneg (by omega)]; push_cast; rfl
        have hr2 : (k : Int).tdiv 16 = (c : Int) := by rw [← hc, Int.tdiv_eq_ediv_of_nonneg (by omega)]; push_cast; rfl
        have hr3 : IntKind.i64.wrap (f : Int) = f := IntWalk.i64_in _ ⟨by omega, by omega⟩
        have hr4 : IntKind.i64.wrap (c : Int) = c := IntWalk.i64_in _ ⟨by omega, by omega⟩
        have hr5 : IntKind.u32.wrap (c : Int) = c := IntWalk.u32_in _ ⟨by omega, by omega⟩
        have hr6 : IntKind.u32.wrap ((c : Int) + 1) = (c : Int) + 1 := IntWalk.u32_in _ ⟨by omega, by omega⟩
        have hms : msN k = mMsg (f : Int) ((c : Int) + 1) := by unfold msN; rw [hf, hc]
        have hst := fulS_succ k
        have hae := ful_addE k (by omega)
        rw [hms] at hst hae
        obtain ⟨σ, hσ⟩ : ∃ σ, fulS k = σ := ⟨_, rfl⟩
        rw [hσ] at hst hae hI
        obtain ⟨q, hq⟩ : ∃ q : Int, (if k < 1000 then (0 : Int) else 120) = q := ⟨_, rfl⟩
        rw [hq] at hae
        have Hst := Lib.hid hst
        have Hae := Lib.hid hae
        have Hq := Lib.hid hq
        clear hf hc hms hst hae hσ hq
        go_upto_region 8 with (first
          | (go_at_call 25; refine (msg_at _ _ _).mono ?_; rintro e wA ⟨rfl, hA⟩; have HIA := Lib.hid (hI.out.ext' hA); clear hA)
          | (go_at_call 13; refine (add_at HIA.out.p HIA.out.ok.len (mMsg (f : Int) ((c : Int) + 1))).mono ?_; rintro e w3 ⟨h0, h1, h2⟩; rw [Hae.out] at h0; subst h0; have HI3 := Lib.hid (HIA.out.step h1 (add_ok HIA.out.ok _) h2); clear h1 h2))
        clear hr1 hr2 hr3 hr4 hr5 hr6
        go_wp2
        go_roundw
        case rel => exact ⟨k + 1, by omega, by go_num, by rw [lastE_succ, Hq.out], by rw [Hst.out]; exact HI3⟩
        case measure => simp [intOf]; omega
      · have hkN : k = N := by omega
        have hkN2 : lastE k = (if N ≤ 1000 then 0 else 120) := by unfold lastE; rw [hkN, if_neg (by omega)]
        rw [hkN] at hI
        obtain ⟨q, hq⟩ : ∃ q : Int, (if N ≤ 1000 then (0 : Int) else 120) = q := ⟨_, rfl⟩
        rw [hkN2, hq]
        obtain ⟨a1, a2⟩ := ful_again N (by omega) (by omega)
        have hpl := pend_len (fulS N)
        rw [ful_len N (by omega)] at hpl
        obtain ⟨σ, hσ⟩ : ∃ σ, fulS N = σ := ⟨_, rfl⟩
        rw [hσ] at a1 a2 hI hpl
        obtain ⟨M, hM⟩ : ∃ M, min N 1000 = M := ⟨_, rfl⟩
        rw [hM] at hpl
        have hmi : min (N : Int) 1000 = (M : Int) := by omega
        have hbb : ((q == 120) == decide (1000 < (N : Int))) = true := by
          rw [← hq]
          by_cases h : N ≤ 1000
          · have : decide (1000 < (N : Int)) = false := by simp; omega
            rw [if_pos h, this]; decide
          · have : decide (1000 < (N : Int)) = true := by simp; omega
            rw [if_neg h, this]; decide
        have A1 := Lib.hid a1
        have A2 := Lib.hid a2
        have HPl := Lib.hid hpl
        clear a1 a2 hpl hkN2 hkN hσ hM hq
        go_upto_region 11 with (first
          | (go_at_call 25; refine (msg_at _ _ _).mono ?_; rintro e wA ⟨rfl, hA⟩; have HIA := Lib.hid (hI.out.ext' hA); clear hA)
          | (go_at_call 13; refine (add_at HIA.out.p HIA.out.ok.len (mMsg 0 1)).mono ?_; rintro e w3 ⟨rfl, h1, h2⟩; rw [A1.out]; have HI3 := Lib.hid (HIA.out.step h1 (add_ok HIA.out.ok _) h2); rw [A2.out] at HI3; clear h1 h2))
        refine wp_region_line [(0,0),(1,0),(2,0),(3,0),(4,0),(5,0),(6,0),(7,0),(8,0),(9,0),(10,0),(11,0),(12,0),(13,0),(14,2),(15,0),(16,0),(17,0),(18,0),(19,0),(20,0)] (by kernel_rfl) (by kernel_rfl) (Ext w3) (fun _ _ h k => h.trans k) (Ext.refl _) ?_
        iterate 14
          first
            | refine Fx.skip rfl rfl (by simp only [List.set_cons_zero, List.set_cons_succ]; rfl) ?_
            | (with_reducible refine Fx.lab0 ?_
               first
                 | refine Fx.moveT rfl rfl rfl (by simp only [List.set_cons_zero, List.set_cons_succ]; rfl) ?_
                 | refine Fx.assignT rfl rfl rfl (by simp only [List.set_cons_zero, List.set_cons_succ]; rfl) ?_
                 | refine Fx.pure_ rfl rfl (fun _ => by go_simp; first | done | rfl) (by simp only [List.set_cons_zero, List.set_cons_succ]; rfl) ?_)
            | (with_reducible refine Fx.lab1 ?_
               refine Fx.look rfl rfl (fun w' hC => by obtain ⟨hc, hf, hl⟩ := Ext.cells hC; go_simp; rfl) (by simp only [List.set_cons_zero, List.set_cons_succ]; rfl) ?_)
        refine Fx.mkBy (fun x : Option Addr × Nat => .slice x.1 M x.2) (fun _ _ => True) (fun _ _ _ h _ => h) rfl rfl (fun w' hC => ?_) (fun x => ?_)
        · unfold stepAt
          rw [show (execOp _ _).run Try.prog w' = .ok (.enter 20 #[.pointer (some ⟨b, 0, none⟩)]) w' from by first | (go_simp; done) | (go_simp; rfl)]
          exact (pend_at (HI3.out.p.ext hC) HI3.out.ok).mono (fun e w'' hh => by
            obtain ⟨v', rfl, h1, h2, h3⟩ := hh
            obtain ⟨A', c', rfl, -⟩ := h1.val
            exact ⟨_, rfl, (A', c'), by rw [HPl.out], h2, trivial⟩)
        simp only [List.set_cons_zero, List.set_cons_succ]
        iterate 6
          first
            | refine Fx.skip rfl rfl (by simp only [List.set_cons_zero, List.set_cons_succ]; rfl) ?_
            | (with_reducible refine Fx.lab0 ?_
               first
                 | refine Fx.moveT rfl rfl rfl (by simp only [List.set_cons_zero, List.set_cons_succ]; rfl) ?_
                 | refine Fx.assignT rfl rfl rfl (by simp only [List.set_cons_zero, List.set_cons_succ]; rfl) ?_
                 | refine Fx.pure_ rfl rfl (fun _ => by go_simp; first | done | rfl) (by simp only [List.set_cons_zero, List.set_cons_succ]; rfl) ?_)
            | (with_reducible refine Fx.lab1 ?_
               refine Fx.look rfl rfl (fun w' hC => by obtain ⟨hc, hf, hl⟩ := Ext.cells hC; go_simp; rfl) (by simp only [List.set_cons_zero, List.set_cons_succ]; rfl) ?_)
        refine Fx.done (fun w8 hC => ?_)
        have HC := Lib.hid hC.1
        clear hC
        go_wp2
        go_ret
        exact ⟨rfl, H1.out.trans (HI3.out.e.trans HC.out)⟩
  · by_cases h1 : n < 990
    · clear hn
      go_wp2
      go_ret
      exact ⟨rfl, H1.out⟩
    · have h2 : 1010 < n := by omega
      clear hn
      go_wp2
      go_ret
      exact ⟨rfl, H1.out⟩
end Go.Proofs.Ytkkcdoajdhbofaa
