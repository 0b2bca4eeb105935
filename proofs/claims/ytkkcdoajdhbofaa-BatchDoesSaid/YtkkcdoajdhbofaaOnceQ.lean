/-
  rostrumlaw12.BatchOnce: what it computes.
-/
import Derived.Test.YtkkcdoajdhbofaaTwice
import Derived.Test.YtkkcdoajdhbofaaOpenA
namespace Go.Proofs.Ytkkcdoajdhbofaa
open Go.RowKit
attribute [local go_sem] Oper.semAt_some

theorem isB_doneS {σ : PSt} {l : List Ms} {j : Int × Int} (h : isB σ j = true) : isB (doneS σ l) j = true := by
  unfold doneS; split
  · rw [isB_doneN, h]; simp
  · exact h
theorem doneL_new : ∀ (l : List Ms) (σ : PSt), ((doneL σ l).map keyM).Nodup ∧ ∀ m ∈ doneL σ l, isB σ (keyM m) = false ∧ m ∈ l
  | [], σ => by simp [doneL]
  | m :: t, σ => by
    obtain ⟨i1, i2⟩ := doneL_new t (done1 σ m)
    have h3 : ∀ x ∈ doneL (done1 σ m) t, keyM x ≠ keyM m ∧ isB σ (keyM x) = false ∧ x ∈ t := fun x hx => by
      obtain ⟨h1, h2⟩ := i2 x hx
      rw [isB_done1, Bool.or_eq_false_iff] at h1
      exact ⟨by simpa using h1.1, h1.2, h2⟩
    unfold doneL
    by_cases hb : isB σ (keyM m) = true
    · rw [if_pos hb, List.nil_append]
      exact ⟨i1, fun x hx => ⟨(h3 x hx).2.1, List.mem_cons_of_mem _ (h3 x hx).2.2⟩⟩
    · rw [if_neg hb]
      refine ⟨?_, fun x hx => ?_⟩
      · simp only [List.singleton_append, List.map_cons, List.nodup_cons]
        refine ⟨fun h => ?_, i1⟩
        obtain ⟨x, hx, e⟩ := List.mem_map.1 h
        exact (h3 x hx).1 e
      · rcases List.mem_append.1 hx with hx | hx
        · simp only [List.mem_cons, List.not_mem_nil, or_false] at hx
          subst hx
          exact ⟨by simpa using hb, List.mem_cons_self ..⟩
        · exact ⟨(h3 x hx).2.1, List.mem_cons_of_mem _ (h3 x hx).2.2⟩
theorem doneA_new (σ : PSt) (l : List Ms) : ((doneA σ l).map keyM).Nodup ∧ (∀ m ∈ doneA σ l, isB σ (keyM m) = false ∧ isB (doneS σ l) (keyM m) = true) ∧ (doneA σ l).length ≤ l.length ∧ (doneA σ l ≠ [] → doneE l = 0) := by
  unfold doneA doneS doneE
  by_cases h : rightL l = true
  · simp only [if_pos h]
    obtain ⟨h1, h2⟩ := doneL_new l σ
    refine ⟨h1, fun m hm => ⟨(h2 m hm).1, ?_⟩, doneL_len l σ, by simp⟩
    rw [isB_doneN]
    have : keyM m ∈ l.map keyM := List.mem_map_of_mem (h2 m hm).2
    simp [this]
  · simp only [if_neg h]
    exact ⟨by simp, by simp, by simp, by simp⟩

/-- Where the list of ids done lies. -/
structure DnI (w2 : World) (b mw md : Nat) (dv : Value) (D : List (Int × Int)) (σ : PSt) (w : World) : Prop where
  p : PoolI w2 b mw md σ w
  d : OwnId w dv D
  f : ∀ x, dv.ownBlock = some x → w2.heap.size ≤ x ∧ ¬ FP b mw md x
theorem DnI.ext' {w2 w w' : World} {b mw md : Nat} {dv : Value} {D : List (Int × Int)} {σ : PSt} (h : DnI w2 b mw md dv D σ w) (he : Ext w w') : DnI w2 b mw md dv D σ w' := ⟨h.p.ext' he, h.d.ext he, h.f⟩
theorem DnI.step {w2 w w' : World} {b mw md : Nat} {dv : Value} {D : List (Int × Int)} {σ σ' : PSt} (h : DnI w2 b mw md dv D σ w) (hp : PoolI w2 b mw md σ' w') (hm : Mods (FP b mw md) w w') : DnI w2 b mw md dv D σ' w' := ⟨hp, h.d.mods hm (fun x hx => (h.f x hx).2), h.f⟩

set_option maxRecDepth 100000 in
set_option maxHeartbeats 6400000 in
theorem once_law (w : World) (v : Value) (l : List Ac) (hl : AcL w v l) (hw : ∀ a ∈ l, Ac.Wf w a) : Calls Try.prog 5 #[v] w (LawP w) := by
  have HL := Lib.hid hl
  have HW := Lib.hid hw
  obtain ⟨A, cap, rfl, hcap, hmax⟩ := hl.val
  have hlen : l.length ≤ 9223372036854775807 := Nat.le_trans hcap (Nat.le_trans hmax (by decide))
  clear hl hw hcap hmax
  go_enter Try.func5, Try.ntmps5
  go_upto_region 2 with (go_at_call 10; refine (shown_at _).mono ?_; rintro e w1 ⟨rfl, hE1⟩; have H1 := Lib.hid hE1; clear hE1)
  go_upto_region 3 with (go_at_call 11; refine (new_at _).mono ?_; rintro e w3 ⟨b, mw, md, rfl, hM, hE, hf⟩; have HI := Lib.hid (PoolI.new hM hE hf); clear hM hE hf)
  go_wp2
  go_loopw [5, 6] (fun d q wr => ∃ (i : Nat) (D : List (Int × Int)) (dv : Value) (σ : PSt), i ≤ l.length ∧ i ≤ 60 ∧ D.length ≤ 10 * i ∧ q = .int .i64 i ∧ dv = d ∧ Hid (DnI w1 b mw md dv D σ wr) ∧ Hid (∀ j ∈ D, isB σ j = true)) (fun _ q _ => l.length - (intOf q).toNat)
  case atStart => exact ⟨0, [], _, p0, Nat.zero_le _, Nat.zero_le _, by simp, rfl, rfl, Lib.hid ⟨HI.out, Own.nil, fun x hx => by simp [Value.ownBlock] at hx⟩, Lib.hid (by simp)⟩
  case round =>
    clear HI
    obtain ⟨i, D, dv, σ, hi, hi60, hD10, rfl, rfl, hI, hDn⟩ := hrel
    by_cases hgo : i < l.length ∧ i < 60
    · obtain ⟨hlt, hlt2⟩ := hgo
      have hlt2I : (i : Int) < 60 := by omega
      have hwi : IntKind.i64.wrap ((i : Int) + 1) = (i : Int) + 1 := IntWalk.i64_in _ ⟨by omega, by omega⟩
      obtain ⟨jb, joff, rfl, hjbl, j0, j1, j2⟩ := Sl.atA (HL.out.ext (H1.out.trans hI.out.p.e)) hlt
      have hwf := HW.out l[i] (List.getElem_mem _)
      generalize l[i] = a at *
      obtain ⟨ml, hml⟩ := hwf
      have HMl := Lib.hid (hml.ext (H1.out.trans hI.out.p.e))
      obtain ⟨mA, mcap, hav, -⟩ := hml.val
      rw [hav] at j2 HMl
      clear hml hav
      go_upto_region 8 with (go_at_call 12; refine (few_at _ _ ml HMl.out).mono ?_; rintro e w4 ⟨fv, rfl, h1, h2, h3⟩; obtain ⟨fA, fcap, rfl, -⟩ := h1.val; have HF := Lib.hid h1; have HE4 := Lib.hid h2; have HFb := Lib.hid h3; clear h1 h2 h3)
      have hF10 := fewL_len ml
      have HI4 := Lib.hid (hI.out.ext' HE4.out)
      have hfo : ∀ x, Value.ownBlock (.slice fA (fewL ml).length fcap) = some x → ¬ FP b mw md x := fun x hx h => by have := HFb.out x hx; have := hI.out.p.p.lt h; omega
      have HFo := Lib.hid hfo
      obtain ⟨M, hM⟩ : ∃ M, fewL ml = M := ⟨_, rfl⟩
      rw [hM] at HF hF10 HFo ⊢
      obtain ⟨xc, xf, xl⟩ := HE4.out.cells
      replace j0 := (xc _ _ hjbl).trans j0
      replace hjbl := xl _ hjbl
      obtain ⟨ux, hux⟩ : ∃ ux, IntKind.u64.wrap a.k = ux := ⟨_, rfl⟩
      have hux0 : 0 ≤ ux := by rw [← hux, IntKind.wrap_u64]; omega
      obtain ⟨r3, hr3⟩ : ∃ r3, ux.tmod 3 = r3 := ⟨_, rfl⟩
      clear xc xf xl hfo hI j1 j2 hM HMl
      have hloop : ∀ (D' : List (Int × Int)) (dv' : Value) (σ' : PSt) (wz : World), D'.length ≤ 10 * (i + 1) → DnI w1 b mw md dv' D' σ' wz → (∀ j ∈ D', isB σ' j = true) → True := fun _ _ _ _ _ _ _ => trivial
      clear hloop
      by_cases h2 : r3 = 2
      · subst h2
        obtain ⟨x1, x2, x3, x4⟩ := doneA_new σ M
        have hM1000 : M.length ≤ 1000000 := by omega
        obtain ⟨X, hX⟩ : ∃ X, doneA σ M = X := ⟨_, rfl⟩
        obtain ⟨ee, hee⟩ : ∃ ee, doneE M = ee := ⟨_, rfl⟩
        rw [hX] at x1 x2 x3 x4
        rw [hee] at x4
        have HX := Lib.hid hX
        have Hee := Lib.hid hee
        have X1 := Lib.hid x1
        have X2 := Lib.hid x2
        have X4 := Lib.hid x4
        have hX10 : X.length ≤ 10 := by omega
        clear hX hee x1 x2 x3 x4
        go_upto_region 10 with (go_at_call 18; refine (done_at HI4.out.p.p _ M (HF.out.sl Ms.len) hM1000 HFo.out).mono ?_; rintro e w5 ⟨xv, h0, g1, g2, g3, g4⟩; rw [Hee.out] at h0; subst h0; rw [HX.out] at g2; obtain ⟨xA, xcap, rfl, hxc, hxm⟩ := g2.val; have HXs := Lib.hid (g2.sl Ms.len); have HXo := Lib.hid g2; have HI5 := Lib.hid (HI4.out.step (HI4.out.p.step g1 (doneS_ok HI4.out.p.ok _) g3) g3); have HXb := Lib.hid g4; clear g1 g2 g3 g4)
        have hdnB : ∀ j ∈ D, isB (doneS σ M) j = true := fun j hj => isB_doneS (hDn.out j hj)
        have hnew : ∀ m ∈ X, ∀ j ∈ D, j ≠ keyM m := fun m hm j hj e => by
          have h1 := hDn.out j hj
          rw [e, (X2.out m hm).1] at h1; cases h1
        have HdnB := Lib.hid hdnB
        have Hnew := Lib.hid hnew
        have hxo : ∀ x, Value.ownBlock (.slice xA X.length xcap) = some x → ¬ dv.ownBlock = some x := fun x hx h => by
          have g1 := HXb.out x hx
          have g2 := HI4.out.d.lt h
          omega
        have HXno := Lib.hid hxo
        clear hdnB hnew hxo
        generalize hσ' : doneS σ M = σ' at *
        have Hσ := Lib.hid hσ'
        clear hσ'
        go_wp2
        generalize wr = wA at *
        go_loopw [5, 10] (fun d q wx => ∃ (k : Nat) (dv' : Value), k ≤ X.length ∧ q = .int .i64 k ∧ dv' = d ∧ Hid (DnI w1 b mw md dv' (D ++ (X.take k).map keyM) σ' wx) ∧ Hid (MsL wx (.slice xA X.length xcap) X) ∧ Hid (∀ x, dv'.ownBlock = some x → Value.ownBlock (.slice xA X.length xcap) ≠ some x)) (fun _ q _ => X.length - (intOf q).toNat)
        case atStart => exact ⟨0, _, Nat.zero_le _, rfl, rfl, by simpa using HI5, HXs, Lib.hid (fun x hx e => HXno.out x e hx)⟩
        case round =>
          clear HI5 HXs HXno
          obtain ⟨k, dv', hk, rfl, rfl, hI, hXs, hno⟩ := hrel
          by_cases hkx : k < X.length
          · have hee0 : (ee == 0) = true := by
              have := X4.out (fun e => by rw [e] at hkx; simp at hkx)
              rw [this]; rfl
            have hwk : IntKind.i64.wrap ((k : Int) + 1) = (k : Int) + 1 := IntWalk.i64_in _ ⟨by omega, by omega⟩
            obtain ⟨m, hm⟩ : ∃ m, X[k] = m := ⟨_, rfl⟩
            have hmX : m ∈ X := by rw [← hm]; exact List.getElem_mem _
            have hall : ∀ j ∈ D ++ (X.take k).map keyM, j ≠ keyM m := fun j hj e => by
              rcases List.mem_append.1 hj with hj | hj
              · exact Hnew.out m hmX j hj e
              · obtain ⟨y, hy, e2⟩ := List.mem_map.1 hj
                obtain ⟨p, hp, e3⟩ := List.getElem_of_mem hy
                have hpk : p < k := by rw [List.length_take] at hp; omega
                rw [List.getElem_take] at e3
                have := List.pairwise_iff_getElem.1 X1.out p k (by simp; omega) (by simp; omega) hpk
                simp only [List.getElem_map] at this
                exact this (by rw [e3, e2, e, hm])
            have htk : D ++ (X.take (k + 1)).map keyM = (D ++ (X.take k).map keyM) ++ [keyM m] := by
              rw [List.take_succ_eq_append_getElem hkx, List.map_append, hm, List.append_assoc]; rfl
            have Hall := Lib.hid hall
            have Htk := Lib.hid htk
            have Hm := Lib.hid hm
            obtain ⟨DD, hDD⟩ : ∃ DD, D ++ (X.take k).map keyM = DD := ⟨_, rfl⟩
            have hDDl : DD.length ≤ 610 := by rw [← hDD, List.length_append, List.length_map, List.length_take]; omega
            rw [hDD] at hI Hall Htk
            obtain ⟨dA, dcap, hdv, hdc, hdm⟩ := hI.out.d.val
            subst hdv
            have HDs := Lib.hid (hI.out.d.sl idE_len)
            clear hmX hall htk hm hDD
            go_wp2
            generalize wr = wB at *
            go_loopw [11] (fun q wx => ∃ (j : Nat), j ≤ DD.length ∧ q = .int .i64 j ∧ Hid (Ext wB wx)) (fun q _ => DD.length - (intOf q).toNat)
            case atStart => exact ⟨0, Nat.zero_le _, rfl, Lib.hid (Ext.refl _)⟩
            case round =>
              obtain ⟨j, hj, rfl, hE⟩ := hrel
              have hwj : IntKind.i64.wrap ((j : Int) + 1) = (j : Int) + 1 := IntWalk.i64_in _ ⟨by omega, by omega⟩
              obtain ⟨xb, xoff, he, hxbl, g0, g1, g2⟩ := Sl.at3 (hXs.out.ext hE.out) hkx
              subst he
              rw [Hm.out] at g0 g1 g2
              by_cases hjl : j < DD.length
              · obtain ⟨db, doff, he, hdbl, d0, d1⟩ := Sl.at2 (HDs.out.ext hE.out) hjl
                subst he
                obtain ⟨id, hid⟩ : ∃ id, DD[j] = id := ⟨_, rfl⟩
                have hne : decide (id = (m.f, m.c)) = false := decide_eq_false (Hall.out id (by rw [← hid]; exact List.getElem_mem _))
                rw [hid] at d0 d1
                have Hne := Lib.hid hne
                clear hid hne g2
                go_upto_region 16 with fail
                refine wp_region_plan [(0,0),(1,0),(2,0),(3,1),(4,0),(5,0),(6,0),(7,0),(8,1),(9,0)] (by kernel_rfl) (by kernel_rfl) (by kernel_rfl) (Ext wr) (fun _ _ h k => h.trans k) (Ext.drawn _ _) ?_
                iterate 3
                  first
                    | refine Fx.skip rfl rfl (by simp only [List.set_cons_zero, List.set_cons_succ]; rfl) ?_
                    | (with_reducible refine Fx.lab0 ?_
                       first
                         | refine Fx.moveT rfl rfl rfl (by simp only [List.set_cons_zero, List.set_cons_succ]; rfl) ?_
                         | refine Fx.assignT rfl rfl rfl (by simp only [List.set_cons_zero, List.set_cons_succ]; rfl) ?_
                         | refine Fx.pure_ rfl rfl (fun _ => by go_simp; first | done | rfl) (by simp only [List.set_cons_zero, List.set_cons_succ]; rfl) ?_)
                    | (with_reducible refine Fx.lab1 ?_
                       refine Fx.look rfl rfl (fun w' hC => by obtain ⟨hc, hf, hl⟩ := Ext.cells hC; go_simp; rfl) (by simp only [List.set_cons_zero, List.set_cons_succ]; rfl) ?_)
                refine Fx.look rfl rfl (op_load_Id' hdbl d0 d1 rfl) (by simp only [List.set_cons_zero, List.set_cons_succ]; rfl) ?_
                iterate 4
                  first
                    | refine Fx.skip rfl rfl (by simp only [List.set_cons_zero, List.set_cons_succ]; rfl) ?_
                    | (with_reducible refine Fx.lab0 ?_
                       first
                         | refine Fx.moveT rfl rfl rfl (by simp only [List.set_cons_zero, List.set_cons_succ]; rfl) ?_
                         | refine Fx.assignT rfl rfl rfl (by simp only [List.set_cons_zero, List.set_cons_succ]; rfl) ?_
                         | refine Fx.pure_ rfl rfl (fun _ => by go_simp; first | done | rfl) (by simp only [List.set_cons_zero, List.set_cons_succ]; rfl) ?_)
                    | (with_reducible refine Fx.lab1 ?_
                       refine Fx.look rfl rfl (fun w' hC => by obtain ⟨hc, hf, hl⟩ := Ext.cells hC; go_simp; rfl) (by simp only [List.set_cons_zero, List.set_cons_succ]; rfl) ?_)
                refine Fx.look rfl rfl (op_load_Id' hxbl g0 g1 rfl) (by simp only [List.set_cons_zero, List.set_cons_succ]; rfl) ?_
                refine Fx.pure_ (v := .bool false) rfl rfl (fun w => by rw [op_eql_Id id (m.f, m.c) rfl rfl, Hne.out]) (by simp only [List.set_cons_zero, List.set_cons_succ]; rfl) ?_
                refine Fx.done (fun w6 hC => ?_)
                have HC := Lib.hid (hE.out.trans hC)
                clear hC d0 d1 g0 g1
                go_wp2
                go_roundw
                case rel => exact ⟨j + 1, by omega, by go_num, HC⟩
                case measure => simp [intOf]; omega
              · have HI6 := Lib.hid (hI.out.ext' hE.out)
                have HXs6 := Lib.hid (hXs.out.ext hE.out)
                go_upto_region 18 with fail
                refine wp_region_line [(0,0),(1,0),(2,0),(3,0),(4,0),(5,1),(6,2),(7,3),(8,0)] (by kernel_rfl) (by kernel_rfl) (Ext wr) (fun _ _ h k => h.trans k) (Ext.refl _) ?_
                iterate 5
                  first
                    | refine Fx.skip rfl rfl (by simp only [List.set_cons_zero, List.set_cons_succ]; rfl) ?_
                    | (with_reducible refine Fx.lab0 ?_
                       first
                         | refine Fx.moveT rfl rfl rfl (by simp only [List.set_cons_zero, List.set_cons_succ]; rfl) ?_
                         | refine Fx.assignT rfl rfl rfl (by simp only [List.set_cons_zero, List.set_cons_succ]; rfl) ?_
                         | refine Fx.pure_ rfl rfl (fun _ => by go_simp; first | done | rfl) (by simp only [List.set_cons_zero, List.set_cons_succ]; rfl) ?_)
                    | (with_reducible refine Fx.lab1 ?_
                       refine Fx.look rfl rfl (fun w' hC => by obtain ⟨hc, hf, hl⟩ := Ext.cells hC; go_simp; rfl) (by simp only [List.set_cons_zero, List.set_cons_succ]; rfl) ?_)
                refine Fx.look rfl rfl (op_load_Id' hxbl g0 g1 rfl) (by simp only [List.set_cons_zero, List.set_cons_succ]; rfl) ?_
                refine Fx.mkSl 1 1 (fun B w' => IdL w' (.slice (some ⟨B, 0, none⟩) 1 1) [keyM m]) (fun B _ _ h k => h.ext k) rfl rfl (fun w' hC => stepAt_lit1I hC (keyM m) rfl) (fun B2 => ?_)
                simp only [List.set_cons_zero, List.set_cons_succ]
                refine Fx.eff (fun v' w' => OwnId w' v' (DD ++ [keyM m]) ∧ Mods (fun c => Value.ownBlock (.slice dA DD.length dcap) = some c) wr w' ∧ (∀ c, v'.ownBlock = some c → Value.ownBlock (.slice dA DD.length dcap) = some c ∨ wr.heap.size ≤ c)) (fun v _ _ h k => ⟨h.1.ext k, h.2.1.then_ k, h.2.2⟩) rfl rfl
                  (fun w' hC => stepAt_appendI hC.1 (HI6.out.d.ext hC.1) hC.2 (by simp; omega) rfl rfl) (fun lv' => ?_)
                simp only [List.set_cons_zero, List.set_cons_succ]
                first
                  | refine Fx.skip rfl rfl (by simp only [List.set_cons_zero, List.set_cons_succ]; rfl) ?_
                  | (with_reducible refine Fx.lab0 ?_
                     first
                       | refine Fx.moveT rfl rfl rfl (by simp only [List.set_cons_zero, List.set_cons_succ]; rfl) ?_
                       | refine Fx.assignT rfl rfl rfl (by simp only [List.set_cons_zero, List.set_cons_succ]; rfl) ?_
                       | refine Fx.pure_ rfl rfl (fun _ => by go_simp; first | done | rfl) (by simp only [List.set_cons_zero, List.set_cons_succ]; rfl) ?_)
                  | (with_reducible refine Fx.lab1 ?_
                     refine Fx.look rfl rfl (fun w' hC => by obtain ⟨hc, hf, hl⟩ := Ext.cells hC; go_simp; rfl) (by simp only [List.set_cons_zero, List.set_cons_succ]; rfl) ?_)
                refine Fx.done (fun w7 hC => ?_)
                obtain ⟨hA1, hA2, hA3⟩ := hC
                have HA1 := Lib.hid hA1
                have HA2 := Lib.hid hA2
                have HA3 := Lib.hid hA3
                clear hA1 hA2 hA3 g0 g1
                go_wp2
                go_roundw
                case rel =>
                  have hno' := hno.out
                  have e17 : Ext w1 w7 := ((HI6.out.p.e.mods (fun x => w1.heap.size ≤ x)).trans HA2.out (fun x _ h => (HI6.out.f x h).1)).ext_of (fun x hx h => by omega)
                  refine ⟨k + 1, lv', by omega, by go_num, rfl, Lib.hid ⟨⟨HI6.out.p.p.mods HA2.out (fun x hx h => (HI6.out.f x h).2 hx), HI6.out.p.ok, HI6.out.p.fr, e17⟩, by rw [Htk.out]; exact HA1.out, fun x hx => ?_⟩, Lib.hid (HXs6.out.mods HA2.out (fun c hc h => hno' c h hc)), Lib.hid (fun x hx e => ?_)⟩
                  · rcases HA3.out x hx with h | h
                    · exact HI6.out.f x h
                    · have s1 := HI6.out.p.e.size
                      exact ⟨by omega, fun hf => by have := HI6.out.p.p.lt hf; omega⟩
                  · rcases HA3.out x hx with h | h
                    · exact hno' x h e
                    · simp [Value.ownBlock] at e; omega
                case measure => simp [intOf]; omega
          · have hkl : k = X.length := by omega
            have hI' := hI.out
            rw [hkl, List.take_length] at hI'
            have HI9 := Lib.hid hI'
            have hall : ∀ j ∈ D ++ X.map keyM, isB σ' j = true := fun j hj => by
              rcases List.mem_append.1 hj with hj | hj
              · exact HdnB.out j hj
              · obtain ⟨y, hy, rfl⟩ := List.mem_map.1 hj
                have := (X2.out y hy).2
                exact this
            have HAll := Lib.hid hall
            have hDl : (D ++ X.map keyM).length ≤ 10 * (i + 1) := by rw [List.length_append, List.length_map]; omega
            have HDl := Lib.hid hDl
            obtain ⟨DD, hDD⟩ : ∃ DD, D ++ X.map keyM = DD := ⟨_, rfl⟩
            rw [hDD] at HI9 HAll HDl
            clear hI' hI hall hDl hDD
            go_upto_region 22 with (go_at_call 20; refine (pend_at HI9.out.p.p HI9.out.p.ok).mono ?_; rintro e w10 ⟨qv, rfl, h1, h2, h3⟩; obtain ⟨qA, qcap, rfl, hqc, hqm⟩ := h1.val; have HQ := Lib.hid (h1.sl Ms.len); have HI10 := Lib.hid (HI9.out.ext' h2); clear h1 h2 h3)
            have hQ1000 : (pend σ').length ≤ 1000 := by rw [pend_len]; exact HI9.out.p.ok.len
            have hnb : ∀ m ∈ pend σ', isB σ' (m.f, m.c) = false := fun m hm => (kfind_val HI9.out.p.ok ((srtL_perm _).mem_iff.1 hm)).2.2
            have HNb := Lib.hid hnb
            generalize pend σ' = Q at *
            clear hnb
            go_wp2
            generalize wr = wC at *
            go_loopw [13] (fun q wx => ∃ (j : Nat), j ≤ Q.length ∧ q = .int .i64 j ∧ Hid (Ext w10 wx)) (fun q _ => Q.length - (intOf q).toNat)
            case atStart => exact ⟨0, Nat.zero_le _, rfl, Lib.hid (Ext.refl _)⟩
            case round =>
              obtain ⟨j, hj, rfl, hE⟩ := hrel
              have hwj : IntKind.i64.wrap ((j : Int) + 1) = (j : Int) + 1 := IntWalk.i64_in _ ⟨by omega, by omega⟩
              have HI11 := Lib.hid (HI10.out.ext' hE.out)
              by_cases hjl : j < Q.length
              · obtain ⟨qb, qoff, rfl, hqbl, z0, z1, -⟩ := Sl.at3 (HQ.out.ext hE.out) hjl
                have hb := HNb.out Q[j] (List.getElem_mem _)
                generalize Q[j] = y at *
                have Hb := Lib.hid hb
                clear hb
                go_upto_region 25 with fail
                refine wp_region_line [(0,0),(1,0),(2,0),(3,0),(4,0),(5,1),(6,1)] (by kernel_rfl) (by kernel_rfl) (Ext wr) (fun _ _ h k => h.trans k) (Ext.refl _) ?_
                iterate 5
                  first
                    | refine Fx.skip rfl rfl (by simp only [List.set_cons_zero, List.set_cons_succ]; rfl) ?_
                    | (with_reducible refine Fx.lab0 ?_
                       first
                         | refine Fx.moveT rfl rfl rfl (by simp only [List.set_cons_zero, List.set_cons_succ]; rfl) ?_
                         | refine Fx.assignT rfl rfl rfl (by simp only [List.set_cons_zero, List.set_cons_succ]; rfl) ?_
                         | refine Fx.pure_ rfl rfl (fun _ => by go_simp; first | done | rfl) (by simp only [List.set_cons_zero, List.set_cons_succ]; rfl) ?_)
                    | (with_reducible refine Fx.lab1 ?_
                       refine Fx.look rfl rfl (fun w' hC => by obtain ⟨hc, hf, hl⟩ := Ext.cells hC; go_simp; rfl) (by simp only [List.set_cons_zero, List.set_cons_succ]; rfl) ?_)
                refine Fx.look rfl rfl (op_load_Id' hqbl z0 z1 rfl) (by simp only [List.set_cons_zero, List.set_cons_succ]; rfl) ?_
                refine Fx.call1 (v := .bool false) (args := #[.pointer (some ⟨b, 0, none⟩), .agg #[.int .i64 y.f, .int .u32 y.c]]) rfl rfl (fun _ => by first | (go_simp; done) | (go_simp; rfl)) (fun w' hC => (is_at (HI11.out.p.p.ext hC) y.f y.c).mono (fun e w'' hh => by rw [Hb.out] at hh; exact hh)) (by simp only [List.set_cons_zero, List.set_cons_succ]; rfl) ?_
                refine Fx.done (fun w12 hC => ?_)
                have HC := Lib.hid (hE.out.trans hC)
                clear hC z0 z1
                go_wp2
                go_roundw
                case rel => exact ⟨j + 1, by omega, by go_num, HC⟩
                case measure => simp [intOf]; omega
              · go_wp2
                go_roundw
                case rel => exact ⟨i + 1, DD, _, σ', by omega, by omega, HDl.out, by go_num, rfl, HI11, HAll⟩
                case measure => simp [intOf]; omega
      · have h2b : (r3 == 2) = false := by simp [h2]
        by_cases hMl : 0 < M.length
        · obtain ⟨fb, foff, rfl, hfbl, g0, g1, g2⟩ := Sl.at3 (HF.out.sl Ms.len) hMl
          obtain ⟨m, hm⟩ : ∃ m, M[0] = m := ⟨_, rfl⟩
          rw [hm] at g0 g1 g2
          have hMlI : (0 : Int) < (M.length : Int) := by omega
          simp only [Nat.zero_mul, Nat.add_zero] at g0 g1 g2
          clear hm h2
          go_upto_region 20 with fail
          refine wp_region_line [(0,0),(1,0),(2,0),(3,1),(4,3)] (by kernel_rfl) (by kernel_rfl) (Ext w4) (fun _ _ h k => h.trans k) (Ext.refl _) ?_
          iterate 3
            first
              | refine Fx.skip rfl rfl (by simp only [List.set_cons_zero, List.set_cons_succ]; rfl) ?_
              | (with_reducible refine Fx.lab0 ?_
                 first
                   | refine Fx.moveT rfl rfl rfl (by simp only [List.set_cons_zero, List.set_cons_succ]; rfl) ?_
                   | refine Fx.assignT rfl rfl rfl (by simp only [List.set_cons_zero, List.set_cons_succ]; rfl) ?_
                   | refine Fx.pure_ rfl rfl (fun _ => by go_simp; first | done | rfl) (by simp only [List.set_cons_zero, List.set_cons_succ]; rfl) ?_)
              | (with_reducible refine Fx.lab1 ?_
                 refine Fx.look rfl rfl (fun w' hC => by obtain ⟨hc, hf, hl⟩ := Ext.cells hC; go_simp; rfl) (by simp only [List.set_cons_zero, List.set_cons_succ]; rfl) ?_)
          refine Fx.look rfl rfl (op_load_Ms' (m := m) hfbl g0 g1 g2 rfl) (by simp only [List.set_cons_zero, List.set_cons_succ]; rfl) ?_
          refine Fx.eff (fun _ w' => PoolI w1 b mw md (addS σ m) w' ∧ Mods (FP b mw md) w4 w') (fun _ _ _ h k => ⟨h.1.ext' k, h.2.then_ k⟩) rfl rfl (fun w' hC => stepAt_mono (stepAt_add HI4.out.p m hC (by first | (go_simp; done) | (go_simp; rfl))) (fun _ _ hh => hh.2)) (fun u => ?_)
          simp only [List.set_cons_zero, List.set_cons_succ]
          refine Fx.done (fun w9 hC => ?_)
          have HI9 := Lib.hid (HI4.out.step hC.1 hC.2)
          have HAll : Hid (∀ j ∈ D, isB (addS σ m) j = true) := Lib.hid (fun j hj => by have := hDn.out j hj; unfold isB at *; rw [addS_dn]; exact this)
          have HDl : Hid (D.length ≤ 10 * (i + 1)) := Lib.hid (by omega)
          generalize addS σ m = σ' at *
          generalize D = DD at *
          clear hC g0 g1 g2
          go_upto_region 22 with (go_at_call 20; refine (pend_at HI9.out.p.p HI9.out.p.ok).mono ?_; rintro e w10 ⟨qv, rfl, h1, h2, h3⟩; obtain ⟨qA, qcap, rfl, hqc, hqm⟩ := h1.val; have HQ := Lib.hid (h1.sl Ms.len); have HI10 := Lib.hid (HI9.out.ext' h2); clear h1 h2 h3)
          have hQ1000 : (pend σ').length ≤ 1000 := by rw [pend_len]; exact HI9.out.p.ok.len
          have hnb : ∀ m ∈ pend σ', isB σ' (m.f, m.c) = false := fun m hm => (kfind_val HI9.out.p.ok ((srtL_perm _).mem_iff.1 hm)).2.2
          have HNb := Lib.hid hnb
          generalize pend σ' = Q at *
          clear hnb
          go_wp2
          generalize wr = wC at *
          go_loopw [13] (fun q wx => ∃ (j : Nat), j ≤ Q.length ∧ q = .int .i64 j ∧ Hid (Ext w10 wx)) (fun q _ => Q.length - (intOf q).toNat)
          case atStart => exact ⟨0, Nat.zero_le _, rfl, Lib.hid (Ext.refl _)⟩
          case round =>
            obtain ⟨j, hj, rfl, hE⟩ := hrel
            have hwj : IntKind.i64.wrap ((j : Int) + 1) = (j : Int) + 1 := IntWalk.i64_in _ ⟨by omega, by omega⟩
            have HI11 := Lib.hid (HI10.out.ext' hE.out)
            by_cases hjl : j < Q.length
            · obtain ⟨qb, qoff, rfl, hqbl, z0, z1, -⟩ := Sl.at3 (HQ.out.ext hE.out) hjl
              have hb := HNb.out Q[j] (List.getElem_mem _)
              generalize Q[j] = y at *
              have Hb := Lib.hid hb
              clear hb
              go_upto_region 25 with fail
              refine wp_region_line [(0,0),(1,0),(2,0),(3,0),(4,0),(5,1),(6,1)] (by kernel_rfl) (by kernel_rfl) (Ext wr) (fun _ _ h k => h.trans k) (Ext.refl _) ?_
              iterate 5
                first
                  | refine Fx.skip rfl rfl (by simp only [List.set_cons_zero, List.set_cons_succ]; rfl) ?_
                  | (with_reducible refine Fx.lab0 ?_
                     first
                       | refine Fx.moveT rfl rfl rfl (by simp only [List.set_cons_zero, List.set_cons_succ]; rfl) ?_
                       | refine Fx.assignT rfl rfl rfl (by simp only [List.set_cons_zero, List.set_cons_succ]; rfl) ?_
                       | refine Fx.pure_ rfl rfl (fun _ => by go_simp; first | done | rfl) (by simp only [List.set_cons_zero, List.set_cons_succ]; rfl) ?_)
                  | (with_reducible refine Fx.lab1 ?_
                     refine Fx.look rfl rfl (fun w' hC => by obtain ⟨hc, hf, hl⟩ := Ext.cells hC; go_simp; rfl) (by simp only [List.set_cons_zero, List.set_cons_succ]; rfl) ?_)
              refine Fx.look rfl rfl (op_load_Id' hqbl z0 z1 rfl) (by simp only [List.set_cons_zero, List.set_cons_succ]; rfl) ?_
              refine Fx.call1 (v := .bool false) (args := #[.pointer (some ⟨b, 0, none⟩), .agg #[.int .i64 y.f, .int .u32 y.c]]) rfl rfl (fun _ => by first | (go_simp; done) | (go_simp; rfl)) (fun w' hC => (is_at (HI11.out.p.p.ext hC) y.f y.c).mono (fun e w'' hh => by rw [Hb.out] at hh; exact hh)) (by simp only [List.set_cons_zero, List.set_cons_succ]; rfl) ?_
              refine Fx.done (fun w12 hC => ?_)
              have HC := Lib.hid (hE.out.trans hC)
              clear hC z0 z1
              go_wp2
              go_roundw
              case rel => exact ⟨j + 1, by omega, by go_num, HC⟩
              case measure => simp [intOf]; omega
            · go_wp2
              go_roundw
              case rel => exact ⟨i + 1, DD, _, σ', by omega, by omega, HDl.out, by go_num, rfl, HI11, HAll⟩
              case measure => simp [intOf]; omega
        · have hMlI : ¬ (0 : Int) < (M.length : Int) := by omega
          have HI9 := HI4
          have HAll := hDn
          have HDl : Hid (D.length ≤ 10 * (i + 1)) := Lib.hid (by omega)
          generalize D = DD at *
          generalize σ = σ' at *
          clear h2
          go_upto_region 22 with (go_at_call 20; refine (pend_at HI9.out.p.p HI9.out.p.ok).mono ?_; rintro e w10 ⟨qv, rfl, h1, h2, h3⟩; obtain ⟨qA, qcap, rfl, hqc, hqm⟩ := h1.val; have HQ := Lib.hid (h1.sl Ms.len); have HI10 := Lib.hid (HI9.out.ext' h2); clear h1 h2 h3)
          have hQ1000 : (pend σ').length ≤ 1000 := by rw [pend_len]; exact HI9.out.p.ok.len
          have hnb : ∀ m ∈ pend σ', isB σ' (m.f, m.c) = false := fun m hm => (kfind_val HI9.out.p.ok ((srtL_perm _).mem_iff.1 hm)).2.2
          have HNb := Lib.hid hnb
          generalize pend σ' = Q at *
          clear hnb
          go_wp2
          generalize wr = wC at *
          go_loopw [13] (fun q wx => ∃ (j : Nat), j ≤ Q.length ∧ q = .int .i64 j ∧ Hid (Ext w10 wx)) (fun q _ => Q.length - (intOf q).toNat)
          case atStart => exact ⟨0, Nat.zero_le _, rfl, Lib.hid (Ext.refl _)⟩
          case round =>
            obtain ⟨j, hj, rfl, hE⟩ := hrel
            have hwj : IntKind.i64.wrap ((j : Int) + 1) = (j : Int) + 1 := IntWalk.i64_in _ ⟨by omega, by omega⟩
            have HI11 := Lib.hid (HI10.out.ext' hE.out)
            by_cases hjl : j < Q.length
            · obtain ⟨qb, qoff, rfl, hqbl, z0, z1, -⟩ := Sl.at3 (HQ.out.ext hE.out) hjl
              have hb := HNb.out Q[j] (List.getElem_mem _)
              generalize Q[j] = y at *
              have Hb := Lib.hid hb
              clear hb
              go_upto_region 25 with fail
              refine wp_region_line [(0,0),(1,0),(2,0),(3,0),(4,0),(5,1),(6,1)] (by kernel_rfl) (by kernel_rfl) (Ext wr) (fun _ _ h k => h.trans k) (Ext.refl _) ?_
              iterate 5
                first
                  | refine Fx.skip rfl rfl (by simp only [List.set_cons_zero, List.set_cons_succ]; rfl) ?_
                  | (with_reducible refine Fx.lab0 ?_
                     first
                       | refine Fx.moveT rfl rfl rfl (by simp only [List.set_cons_zero, List.set_cons_succ]; rfl) ?_
                       | refine Fx.assignT rfl rfl rfl (by simp only [List.set_cons_zero, List.set_cons_succ]; rfl) ?_
                       | refine Fx.pure_ rfl rfl (fun _ => by go_simp; first | done | rfl) (by simp only [List.set_cons_zero, List.set_cons_succ]; rfl) ?_)
                  | (with_reducible refine Fx.lab1 ?_
                     refine Fx.look rfl rfl (fun w' hC => by obtain ⟨hc, hf, hl⟩ := Ext.cells hC; go_simp; rfl) (by simp only [List.set_cons_zero, List.set_cons_succ]; rfl) ?_)
              refine Fx.look rfl rfl (op_load_Id' hqbl z0 z1 rfl) (by simp only [List.set_cons_zero, List.set_cons_succ]; rfl) ?_
              refine Fx.call1 (v := .bool false) (args := #[.pointer (some ⟨b, 0, none⟩), .agg #[.int .i64 y.f, .int .u32 y.c]]) rfl rfl (fun _ => by first | (go_simp; done) | (go_simp; rfl)) (fun w' hC => (is_at (HI11.out.p.p.ext hC) y.f y.c).mono (fun e w'' hh => by rw [Hb.out] at hh; exact hh)) (by simp only [List.set_cons_zero, List.set_cons_succ]; rfl) ?_
              refine Fx.done (fun w12 hC => ?_)
              have HC := Lib.hid (hE.out.trans hC)
              clear hC z0 z1
              go_wp2
              go_roundw
              case rel => exact ⟨j + 1, by omega, by go_num, HC⟩
              case measure => simp [intOf]; omega
            · go_wp2
              go_roundw
              case rel => exact ⟨i + 1, DD, _, σ', by omega, by omega, HDl.out, by go_num, rfl, HI11, HAll⟩
              case measure => simp [intOf]; omega
    · have hfin : Hid (∀ j ∈ D, isB σ j = true) := hDn
      obtain ⟨dA, dcap, hdv, hdc, hdm⟩ := hI.out.d.val
      subst hdv
      have HDs := Lib.hid (hI.out.d.sl idE_len)
      have hD600 : D.length ≤ 600 := by omega
      by_cases hlt : i < l.length
      · have h60 : ¬ i < 60 := fun h => hgo ⟨hlt, h⟩
        have h60I : ¬ (i : Int) < 60 := by omega
        clear hgo
        go_wp2
        generalize wr = wC at *
        go_loopw [14] (fun q wx => ∃ (j : Nat), j ≤ D.length ∧ q = .int .i64 j ∧ Hid (Ext wC wx)) (fun q _ => D.length - (intOf q).toNat)
        case atStart => exact ⟨0, Nat.zero_le _, rfl, Lib.hid (Ext.refl _)⟩
        case round =>
          obtain ⟨j, hj, rfl, hE⟩ := hrel
          have hwj : IntKind.i64.wrap ((j : Int) + 1) = (j : Int) + 1 := IntWalk.i64_in _ ⟨by omega, by omega⟩
          by_cases hjl : j < D.length
          · obtain ⟨db, doff, he, hdbl, d0, d1⟩ := Sl.at2 (HDs.out.ext hE.out) hjl
            subst he
            have hb := hfin.out D[j] (List.getElem_mem _)
            generalize D[j] = y at *
            have Hb := Lib.hid hb
            clear hb
            go_upto_region 30 with fail
            refine wp_region_line [(0,0),(1,0),(2,0),(3,0),(4,1),(5,1),(6,0)] (by kernel_rfl) (by kernel_rfl) (Ext wr) (fun _ _ h k => h.trans k) (Ext.refl _) ?_
            iterate 4
              first
                | refine Fx.skip rfl rfl (by simp only [List.set_cons_zero, List.set_cons_succ]; rfl) ?_
                | (with_reducible refine Fx.lab0 ?_
                   first
                     | refine Fx.moveT rfl rfl rfl (by simp only [List.set_cons_zero, List.set_cons_succ]; rfl) ?_
                     | refine Fx.assignT rfl rfl rfl (by simp only [List.set_cons_zero, List.set_cons_succ]; rfl) ?_
                     | refine Fx.pure_ rfl rfl (fun _ => by go_simp; first | done | rfl) (by simp only [List.set_cons_zero, List.set_cons_succ]; rfl) ?_)
                | (with_reducible refine Fx.lab1 ?_
                   refine Fx.look rfl rfl (fun w' hC => by obtain ⟨hc, hf, hl⟩ := Ext.cells hC; go_simp; rfl) (by simp only [List.set_cons_zero, List.set_cons_succ]; rfl) ?_)
            refine Fx.look rfl rfl (op_load_Id' hdbl d0 d1 rfl) (by simp only [List.set_cons_zero, List.set_cons_succ]; rfl) ?_
            refine Fx.call1 (v := .bool true) (args := #[.pointer (some ⟨b, 0, none⟩), .agg #[.int .i64 y.1, .int .u32 y.2]]) rfl rfl (fun _ => by first | (go_simp; done) | (go_simp; rfl)) (fun w' hC => (is_at ((hI.out.p.p.ext hE.out).ext hC) y.1 y.2).mono (fun e w'' hh => by rw [Hb.out] at hh; exact hh)) (by simp only [List.set_cons_zero, List.set_cons_succ]; rfl) ?_
            first
              | refine Fx.skip rfl rfl (by simp only [List.set_cons_zero, List.set_cons_succ]; rfl) ?_
              | (with_reducible refine Fx.lab0 ?_
                 first
                   | refine Fx.moveT rfl rfl rfl (by simp only [List.set_cons_zero, List.set_cons_succ]; rfl) ?_
                   | refine Fx.assignT rfl rfl rfl (by simp only [List.set_cons_zero, List.set_cons_succ]; rfl) ?_
                   | refine Fx.pure_ rfl rfl (fun _ => by go_simp; first | done | rfl) (by simp only [List.set_cons_zero, List.set_cons_succ]; rfl) ?_)
              | (with_reducible refine Fx.lab1 ?_
                 refine Fx.look rfl rfl (fun w' hC => by obtain ⟨hc, hf, hl⟩ := Ext.cells hC; go_simp; rfl) (by simp only [List.set_cons_zero, List.set_cons_succ]; rfl) ?_)
            refine Fx.done (fun w12 hC => ?_)
            have HC := Lib.hid (hE.out.trans hC)
            clear hC d0 d1
            go_wp2
            go_roundw
            case rel => exact ⟨j + 1, by omega, by go_num, HC⟩
            case measure => simp [intOf]; omega
          · go_wp2
            go_ret
            exact ⟨rfl, H1.out.trans (hI.out.p.e.trans hE.out)⟩
      · clear hgo
        go_wp2
        generalize wr = wC at *
        go_loopw [14] (fun q wx => ∃ (j : Nat), j ≤ D.length ∧ q = .int .i64 j ∧ Hid (Ext wC wx)) (fun q _ => D.length - (intOf q).toNat)
        case atStart => exact ⟨0, Nat.zero_le _, rfl, Lib.hid (Ext.refl _)⟩
        case round =>
          obtain ⟨j, hj, rfl, hE⟩ := hrel
          have hwj : IntKind.i64.wrap ((j : Int) + 1) = (j : Int) + 1 := IntWalk.i64_in _ ⟨by omega, by omega⟩
          by_cases hjl : j < D.length
          · obtain ⟨db, doff, he, hdbl, d0, d1⟩ := Sl.at2 (HDs.out.ext hE.out) hjl
            subst he
            have hb := hfin.out D[j] (List.getElem_mem _)
            generalize D[j] = y at *
            have Hb := Lib.hid hb
            clear hb
            go_upto_region 30 with fail
            refine wp_region_line [(0,0),(1,0),(2,0),(3,0),(4,1),(5,1),(6,0)] (by kernel_rfl) (by kernel_rfl) (Ext wr) (fun _ _ h k => h.trans k) (Ext.refl _) ?_
            iterate 4
              first
                | refine Fx.skip rfl rfl (by simp only [List.set_cons_zero, List.set_cons_succ]; rfl) ?_
                | (with_reducible refine Fx.lab0 ?_
                   first
                     | refine Fx.moveT rfl rfl rfl (by simp only [List.set_cons_zero, List.set_cons_succ]; rfl) ?_
                     | refine Fx.assignT rfl rfl rfl (by simp only [List.set_cons_zero, List.set_cons_succ]; rfl) ?_
                     | refine Fx.pure_ rfl rfl (fun _ => by go_simp; first | done | rfl) (by simp only [List.set_cons_zero, List.set_cons_succ]; rfl) ?_)
                | (with_reducible refine Fx.lab1 ?_
                   refine Fx.look rfl rfl (fun w' hC => by obtain ⟨hc, hf, hl⟩ := Ext.cells hC; go_simp; rfl) (by simp only [List.set_cons_zero, List.set_cons_succ]; rfl) ?_)
            refine Fx.look rfl rfl (op_load_Id' hdbl d0 d1 rfl) (by simp only [List.set_cons_zero, List.set_cons_succ]; rfl) ?_
            refine Fx.call1 (v := .bool true) (args := #[.pointer (some ⟨b, 0, none⟩), .agg #[.int .i64 y.1, .int .u32 y.2]]) rfl rfl (fun _ => by first | (go_simp; done) | (go_simp; rfl)) (fun w' hC => (is_at ((hI.out.p.p.ext hE.out).ext hC) y.1 y.2).mono (fun e w'' hh => by rw [Hb.out] at hh; exact hh)) (by simp only [List.set_cons_zero, List.set_cons_succ]; rfl) ?_
            first
              | refine Fx.skip rfl rfl (by simp only [List.set_cons_zero, List.set_cons_succ]; rfl) ?_
              | (with_reducible refine Fx.lab0 ?_
                 first
                   | refine Fx.moveT rfl rfl rfl (by simp only [List.set_cons_zero, List.set_cons_succ]; rfl) ?_
                   | refine Fx.assignT rfl rfl rfl (by simp only [List.set_cons_zero, List.set_cons_succ]; rfl) ?_
                   | refine Fx.pure_ rfl rfl (fun _ => by go_simp; first | done | rfl) (by simp only [List.set_cons_zero, List.set_cons_succ]; rfl) ?_)
              | (with_reducible refine Fx.lab1 ?_
                 refine Fx.look rfl rfl (fun w' hC => by obtain ⟨hc, hf, hl⟩ := Ext.cells hC; go_simp; rfl) (by simp only [List.set_cons_zero, List.set_cons_succ]; rfl) ?_)
            refine Fx.done (fun w12 hC => ?_)
            have HC := Lib.hid (hE.out.trans hC)
            clear hC d0 d1
            go_wp2
            go_roundw
            case rel => exact ⟨j + 1, by omega, by go_num, HC⟩
            case measure => simp [intOf]; omega
          · go_wp2
            go_ret
            exact ⟨rfl, H1.out.trans (hI.out.p.e.trans hE.out)⟩
end Go.Proofs.Ytkkcdoajdhbofaa
