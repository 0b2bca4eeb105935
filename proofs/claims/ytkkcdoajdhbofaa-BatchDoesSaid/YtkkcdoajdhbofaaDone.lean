/-
  batch.Pool: right, Done.
-/
import Derived.Test.YtkkcdoajdhbofaaAdd
namespace Go.Proofs.Ytkkcdoajdhbofaa
open Go.RowKit
attribute [local go_sem] Oper.semAt_some

theorem rightL_take (l : List Ms) (k : Nat) (h : k < l.length) : rightL (l.take (k + 1)) = (rightL (l.take k) && rightB l[k]) := by
  unfold rightL
  rw [List.take_succ_eq_append_getElem h, List.all_append]; simp
theorem rightL_all {l : List Ms} {k : Nat} (h : k < l.length) (hr : rightB l[k] = false) : rightL l = false := by
  unfold rightL
  rw [List.all_eq_false]
  exact ⟨l[k], List.getElem_mem h, by simp [hr]⟩
set_option maxRecDepth 100000 in
set_option maxHeartbeats 1600000 in
theorem right_at (w : World) (v : Value) (l : List Ms) (hl : MsL w v l) (hlen : l.length ≤ 1000000) : Calls Try.prog 31 #[v] w fun e w' => e = .returned (.bool (rightL l)) ∧ Ext w w' := by
  have HL := Lib.hid hl
  obtain ⟨A, cap, rfl, -⟩ := hl.val
  clear hl
  go_enter Try.func31, Try.ntmps31
  go_wp2
  go_loopw [7] (fun q wr => ∃ (k : Nat), q = .int .i64 k ∧ k ≤ l.length ∧ Hid (rightL (l.take k) = true) ∧ Hid (Ext w wr)) (fun q _ => l.length - (intOf q).toNat)
  case atStart => exact ⟨0, rfl, Nat.zero_le _, Lib.hid rfl, Lib.hid (Ext.refl _)⟩
  case round =>
    obtain ⟨k, rfl, hk, hR, hE⟩ := hrel
    by_cases hlt : k < l.length
    · obtain ⟨jb, joff, rfl, hjbl, j0, j1, j2⟩ := Sl.at3 (HL.out.ext hE.out) hlt
      have hst := rightL_take l k hlt
      have hall := fun h => rightL_all hlt h
      obtain ⟨m, hm⟩ : ∃ m, l[k] = m := ⟨_, rfl⟩
      rw [hm] at j0 j1 j2 hst hall
      obtain ⟨r, hr⟩ : ∃ r, rightB m = r := ⟨_, rfl⟩
      rw [hr] at hst hall
      have Hst := Lib.hid hst
      have Hall := Lib.hid hall
      have Hr := Lib.hid hr
      have hwk : IntKind.i64.wrap ((k : Int) + 1) = (k : Int) + 1 := IntWalk.i64_in _ ⟨by omega, by omega⟩
      clear hst hall hm hr
      go_upto_region 3 with fail
      refine wp_region_line [(0,0),(1,1),(2,2),(3,3)] (by kernel_rfl) (by kernel_rfl) (Ext wr) (fun _ _ h k => h.trans k) (Ext.refl _) ?_
      first
        | refine Fx.skip rfl rfl (by simp only [List.set_cons_zero, List.set_cons_succ]; rfl) ?_
        | (with_reducible refine Fx.lab0 ?_
           first
             | refine Fx.moveT rfl rfl rfl (by simp only [List.set_cons_zero, List.set_cons_succ]; rfl) ?_
             | refine Fx.assignT rfl rfl rfl (by simp only [List.set_cons_zero, List.set_cons_succ]; rfl) ?_
             | refine Fx.pure_ rfl rfl (fun _ => by go_simp; first | done | rfl) (by simp only [List.set_cons_zero, List.set_cons_succ]; rfl) ?_)
        | (with_reducible refine Fx.lab1 ?_
           refine Fx.look rfl rfl (fun w' hC => by obtain ⟨hc, hf, hl⟩ := Ext.cells hC; go_simp; rfl) (by simp only [List.set_cons_zero, List.set_cons_succ]; rfl) ?_)
      refine Fx.look rfl rfl (op_load_Ms' (m := m) hjbl j0 j1 j2 rfl) (by simp only [List.set_cons_zero, List.set_cons_succ]; rfl) ?_
      refine Fx.mkPtr (fun B w' => wr.heap.size ≤ B ∧ Obj_ w' B 3 (msF ms0)) (fun B _ _ h k => ⟨h.1, h.2.ext k⟩) rfl rfl (fun w' hC => stepAt_alloc_Ms hC) (fun B => ?_)
      simp only [List.set_cons_zero, List.set_cons_succ]
      refine Fx.eff0 (MsPre wr B m) (msPre_stable _ _ _) rfl rfl (fun w' hC => stepAt_mono (stepAt_store_Ms hC.1 hC.2.1 hC.2.2 m rfl rfl) (fun _ w'' h => ⟨h.1, hC.2.1, h.2⟩)) ?_
      refine Fx.done (fun w1 hC => ?_)
      obtain ⟨hC1, hB, hOb⟩ := hC
      have HE1 := Lib.hid (hE.out.trans hC1)
      obtain ⟨d0, d1, d2⟩ := hOb.ms
      have dl := hOb.lt
      clear hC1 hB hOb j0 j1 j2
      go_upto_region 4 with fail
      refine wp_region_line [(0,1),(1,1),(2,0)] (by kernel_rfl) (by kernel_rfl) (Ext w1) (fun _ _ h k => h.trans k) (Ext.refl _) ?_
      refine Fx.look rfl rfl (op_load_Ms' (m := m) dl d0 d1 d2 rfl) (by simp only [List.set_cons_zero, List.set_cons_succ]; rfl) ?_
      refine Fx.call1 (v := .bool r) (args := #[m.val]) rfl rfl (fun _ => by first | (go_simp; done) | (go_simp; rfl)) (fun w'' hC => (right_ids m w'').mono (fun e w3 hh => by rw [Hr.out] at hh; exact hh)) (by simp only [List.set_cons_zero, List.set_cons_succ]; rfl) ?_
      first
        | refine Fx.skip rfl rfl (by simp only [List.set_cons_zero, List.set_cons_succ]; rfl) ?_
        | (with_reducible refine Fx.lab0 ?_
           first
             | refine Fx.moveT rfl rfl rfl (by simp only [List.set_cons_zero, List.set_cons_succ]; rfl) ?_
             | refine Fx.assignT rfl rfl rfl (by simp only [List.set_cons_zero, List.set_cons_succ]; rfl) ?_
             | refine Fx.pure_ rfl rfl (fun _ => by go_simp; first | done | rfl) (by simp only [List.set_cons_zero, List.set_cons_succ]; rfl) ?_)
        | (with_reducible refine Fx.lab1 ?_
           refine Fx.look rfl rfl (fun w' hC => by obtain ⟨hc, hf, hl⟩ := Ext.cells hC; go_simp; rfl) (by simp only [List.set_cons_zero, List.set_cons_succ]; rfl) ?_)
      refine Fx.done (fun w2 hC => ?_)
      have HE2 := Lib.hid (HE1.out.trans hC)
      clear hC d0 d1 d2
      cases r with
      | true =>
        go_wp2
        go_roundw
        case rel => exact ⟨k + 1, by go_num, by omega, Lib.hid (by rw [Hst.out, hR.out]; rfl), HE2⟩
        case measure => simp [intOf]; omega
      | false =>
        go_wp2
        go_ret
        exact ⟨by rw [Hall.out trivial]; rfl, HE2.out⟩
    · have hkl : k = l.length := by omega
      go_wp2
      go_ret
      refine ⟨?_, hE.out⟩
      have := hR.out
      rw [hkl, List.take_length] at this
      rw [this]; rfl

def DoneR (w : World) (b mw md : Nat) (σ : PSt) (l : List Ms) (e : Ending) (w' : World) : Prop :=
  ∃ nv, e = .returned (.tuple #[nv, .int .i64 (doneE l)]) ∧ PoolAt w' b mw md (doneS σ l) ∧ OwnMs w' nv (doneA σ l) ∧ Mods (FP b mw md) w w' ∧ ∀ x, nv.ownBlock = some x → w.heap.size ≤ x
theorem done_nil (w : World) (v : Value) : Calls Try.prog 18 #[.pointer none, v] w fun e w' => e = .returned (.tuple #[.slice none 0 0, .int .i64 1]) ∧ w' = w := by
  go_enter Try.func18, Try.ntmps18
  go_wp2_with (go_at_call 26; refine (isNil_nil _).mono ?_; rintro e w' ⟨rfl, rfl⟩)
  go_ret2
  exact ⟨rfl, rfl⟩
theorem doneN_take (σ : PSt) (l : List Ms) (k : Nat) (h : k < l.length) : doneN σ (l.take (k + 1)) = done1 (doneN σ (l.take k)) l[k] := by
  rw [List.take_succ_eq_append_getElem h, doneN_snoc]
theorem doneL_take (σ : PSt) (l : List Ms) (k : Nat) (h : k < l.length) : doneL σ (l.take (k + 1)) = doneL σ (l.take k) ++ (if isB (doneN σ (l.take k)) (keyM l[k]) then [] else [l[k]]) := by
  rw [List.take_succ_eq_append_getElem h, doneL_snoc]
set_option maxRecDepth 100000 in
set_option maxHeartbeats 3200000 in
theorem done_at {w : World} {b mw md : Nat} {σ : PSt} (h : PoolAt w b mw md σ) (v : Value) (l : List Ms) (hl : MsL w v l) (hlen : l.length ≤ 1000000) (hv : ∀ x, v.ownBlock = some x → ¬ FP b mw md x) :
    Calls Try.prog 18 #[.pointer (some ⟨b, 0, none⟩), v] w (DoneR w b mw md σ l) := by
  have HL := Lib.hid hl
  have H := Lib.hid h
  obtain ⟨A, cap, rfl, -⟩ := hl.val
  have HV := Lib.hid hv
  obtain ⟨r, hr⟩ : ∃ r, rightL l = r := ⟨_, rfl⟩
  have Hr := Lib.hid hr
  clear hl h hr hv
  go_enter Try.func18, Try.ntmps18
  go_upto_region 3 with (go_at_call 26; refine (isNil_at H.out).mono ?_; rintro e w' ⟨rfl, rfl⟩)
  refine wp_region_line [(0,0),(1,1),(2,0)] (by kernel_rfl) (by kernel_rfl) (Ext w') (fun _ _ h k => h.trans k) (Ext.refl _) ?_
  first
    | refine Fx.skip rfl rfl (by simp only [List.set_cons_zero, List.set_cons_succ]; rfl) ?_
    | (with_reducible refine Fx.lab0 ?_
       first
         | refine Fx.moveT rfl rfl rfl (by simp only [List.set_cons_zero, List.set_cons_succ]; rfl) ?_
         | refine Fx.assignT rfl rfl rfl (by simp only [List.set_cons_zero, List.set_cons_succ]; rfl) ?_
         | refine Fx.pure_ rfl rfl (fun _ => by go_simp; first | done | rfl) (by simp only [List.set_cons_zero, List.set_cons_succ]; rfl) ?_)
    | (with_reducible refine Fx.lab1 ?_
       refine Fx.look rfl rfl (fun w' hC => by obtain ⟨hc, hf, hl⟩ := Ext.cells hC; go_simp; rfl) (by simp only [List.set_cons_zero, List.set_cons_succ]; rfl) ?_)
  refine Fx.call1 (v := .bool r) (args := #[.slice A l.length cap]) rfl rfl (fun _ => by first | (go_simp; done) | (go_simp; rfl)) (fun w'' hC => (right_at w'' _ l (HL.out.ext hC) hlen).mono (fun e w3 hh => by rw [Hr.out] at hh; exact hh)) (by simp only [List.set_cons_zero, List.set_cons_succ]; rfl) ?_
  first
    | refine Fx.skip rfl rfl (by simp only [List.set_cons_zero, List.set_cons_succ]; rfl) ?_
    | (with_reducible refine Fx.lab0 ?_
       first
         | refine Fx.moveT rfl rfl rfl (by simp only [List.set_cons_zero, List.set_cons_succ]; rfl) ?_
         | refine Fx.assignT rfl rfl rfl (by simp only [List.set_cons_zero, List.set_cons_succ]; rfl) ?_
         | refine Fx.pure_ rfl rfl (fun _ => by go_simp; first | done | rfl) (by simp only [List.set_cons_zero, List.set_cons_succ]; rfl) ?_)
    | (with_reducible refine Fx.lab1 ?_
       refine Fx.look rfl rfl (fun w' hC => by obtain ⟨hc, hf, hl⟩ := Ext.cells hC; go_simp; rfl) (by simp only [List.set_cons_zero, List.set_cons_succ]; rfl) ?_)
  refine Fx.done (fun w1 hC => ?_)
  have H1 := Lib.hid (H.out.ext hC)
  have HE1 := Lib.hid hC
  clear hC
  cases r with
  | false =>
    go_wp2
    go_ret2
    refine ⟨.slice none 0 0, by unfold doneE; rw [Hr.out]; rfl, ?_, ?_, HE1.out.mods _, fun x hx => by simp [Value.ownBlock] at hx⟩
    · unfold doneS; rw [Hr.out]; exact H1.out
    · unfold doneA; rw [Hr.out]; exact Own.nil
  | true =>
    go_wp2
    go_loopw [6, 16] (fun v6 q wr => ∃ (k : Nat) (nv : Value), nv = v6 ∧ q = .int .i64 k ∧ k ≤ l.length ∧ Hid (PoolAt wr b mw md (doneN σ (l.take k))) ∧ Hid (OwnMs wr nv (doneL σ (l.take k))) ∧ Hid (Mods (FP b mw md) w' wr) ∧ Hid (∀ x, nv.ownBlock = some x → w'.heap.size ≤ x)) (fun _ q _ => l.length - (intOf q).toNat)
    case atStart => exact ⟨0, _, rfl, rfl, Nat.zero_le _, Lib.hid H1.out, Lib.hid Own.nil, Lib.hid (HE1.out.mods _), Lib.hid (fun x hx => by simp [Value.ownBlock] at hx)⟩
    case round =>
      obtain ⟨k, nv, rfl, rfl, hk, hP, hO, hM, hF⟩ := hrel
      by_cases hlt : k < l.length
      · have hSl := HL.out.mods hM.out HV.out
        obtain ⟨jb, joff, rfl, hjbl, j0, j1, j2⟩ := Sl.at3 hSl hlt
        have hn := doneN_take σ l k hlt
        have hd := doneL_take σ l k hlt
        have hdl := doneL_len (l.take k) σ
        rw [List.length_take] at hdl
        have hdl2 : (doneL σ (l.take k)).length + 1 ≤ 1000001 := by omega
        obtain ⟨m, hm⟩ : ∃ m, l[k] = m := ⟨_, rfl⟩
        rw [hm] at j0 j1 j2 hn hd
        obtain ⟨τ, hτ⟩ : ∃ τ, doneN σ (l.take k) = τ := ⟨_, rfl⟩
        rw [hτ] at hn hd hP
        obtain ⟨N, hN⟩ : ∃ N, doneL σ (l.take k) = N := ⟨_, rfl⟩
        rw [hN] at hd hO hdl2
        obtain ⟨q, hq⟩ : ∃ q, isB τ (keyM m) = q := ⟨_, rfl⟩
        rw [hq] at hd
        have Hq := Lib.hid hq
        have Hn := Lib.hid hn
        have Hd := Lib.hid hd
        have HDl := Lib.hid hdl2
        have hwk : IntKind.i64.wrap ((k : Int) + 1) = (k : Int) + 1 := IntWalk.i64_in _ ⟨by omega, by omega⟩
        clear hSl hn hd hdl hm hτ hN hq hdl2
        go_upto_region 8 with fail
        refine wp_region_line [(0,0),(1,1),(2,2),(3,3)] (by kernel_rfl) (by kernel_rfl) (Ext wr) (fun _ _ h k => h.trans k) (Ext.refl _) ?_
        first
          | refine Fx.skip rfl rfl (by simp only [List.set_cons_zero, List.set_cons_succ]; rfl) ?_
          | (with_reducible refine Fx.lab0 ?_
             first
               | refine Fx.moveT rfl rfl rfl (by simp only [List.set_cons_zero, List.set_cons_succ]; rfl) ?_
               | refine Fx.assignT rfl rfl rfl (by simp only [List.set_cons_zero, List.set_cons_succ]; rfl) ?_
               | refine Fx.pure_ rfl rfl (fun _ => by go_simp; first | done | rfl) (by simp only [List.set_cons_zero, List.set_cons_succ]; rfl) ?_)
          | (with_reducible refine Fx.lab1 ?_
             refine Fx.look rfl rfl (fun w' hC => by obtain ⟨hc, hf, hl⟩ := Ext.cells hC; go_simp; rfl) (by simp only [List.set_cons_zero, List.set_cons_succ]; rfl) ?_)
        refine Fx.look rfl rfl (op_load_Ms' (m := m) hjbl j0 j1 j2 rfl) (by simp only [List.set_cons_zero, List.set_cons_succ]; rfl) ?_
        refine Fx.mkPtr (fun B w' => wr.heap.size ≤ B ∧ Obj_ w' B 3 (msF ms0)) (fun B _ _ h k => ⟨h.1, h.2.ext k⟩) rfl rfl (fun w' hC => stepAt_alloc_Ms hC) (fun B => ?_)
        simp only [List.set_cons_zero, List.set_cons_succ]
        refine Fx.eff0 (MsPre wr B m) (msPre_stable _ _ _) rfl rfl (fun w' hC => stepAt_mono (stepAt_store_Ms hC.1 hC.2.1 hC.2.2 m rfl rfl) (fun _ w'' h => ⟨h.1, hC.2.1, h.2⟩)) ?_
        refine Fx.done (fun w2 hC => ?_)
        obtain ⟨hC1, hB, hOb⟩ := hC
        have HE2 := Lib.hid hC1
        have H2 := Lib.hid (hP.out.ext hC1)
        have HOb := Lib.hid hOb
        have HB := Lib.hid hB
        obtain ⟨d0, d1, d2⟩ := hOb.ms
        have dl := hOb.lt
        clear hC1 hB hOb j0 j1 j2
        go_upto_region 9 with fail
        refine wp_region_line [(0,0),(1,0),(2,1),(3,1)] (by kernel_rfl) (by kernel_rfl) (Ext w2) (fun _ _ h k => h.trans k) (Ext.refl _) ?_
        iterate 2
          first
            | refine Fx.skip rfl rfl (by simp only [List.set_cons_zero, List.set_cons_succ]; rfl) ?_
            | (with_reducible refine Fx.lab0 ?_
               first
                 | refine Fx.moveT rfl rfl rfl (by simp only [List.set_cons_zero, List.set_cons_succ]; rfl) ?_
                 | refine Fx.assignT rfl rfl rfl (by simp only [List.set_cons_zero, List.set_cons_succ]; rfl) ?_
                 | refine Fx.pure_ rfl rfl (fun _ => by go_simp; first | done | rfl) (by simp only [List.set_cons_zero, List.set_cons_succ]; rfl) ?_)
            | (with_reducible refine Fx.lab1 ?_
               refine Fx.look rfl rfl (fun w' hC => by obtain ⟨hc, hf, hl⟩ := Ext.cells hC; go_simp; rfl) (by simp only [List.set_cons_zero, List.set_cons_succ]; rfl) ?_)
        refine Fx.look rfl rfl (op_load_Id' dl d0 d1 rfl) (by simp only [List.set_cons_zero, List.set_cons_succ]; rfl) ?_
        refine Fx.call1 (v := .bool q) (args := #[.pointer (some ⟨b, 0, none⟩), .agg #[.int .i64 m.f, .int .u32 m.c]]) rfl rfl (fun _ => by first | (go_simp; done) | (go_simp; rfl)) (fun w' hC => (is_at (H2.out.ext hC) m.f m.c).mono (fun e w'' hh => by rw [show ((m.f, m.c) : Int × Int) = keyM m from rfl, Hq.out] at hh; exact hh)) (by simp only [List.set_cons_zero, List.set_cons_succ]; rfl) ?_
        refine Fx.done (fun w3 hC => ?_)
        have HE3 := Lib.hid (HE2.out.trans hC)
        have H3 := Lib.hid (H2.out.ext hC)
        have hOb3 := HOb.out.ext hC
        have HOb3 := Lib.hid hOb3
        clear hC d0 d1 d2 dl HOb
        cases q with
        | true =>
          clear hOb3
          go_wp2
          go_roundw
          case rel =>
            refine ⟨k + 1, _, rfl, by go_num, by omega, ?_, ?_, ?_, hF⟩
            · rw [Hn.out]; refine Lib.hid ?_; unfold done1; rw [Hq.out]; exact H3.out
            · rw [Hd.out]; exact Lib.hid (by simpa using hO.out.ext HE3.out)
            · exact Lib.hid (hM.out.then_ HE3.out)
          case measure => simp [intOf]; omega
        | false =>
          obtain ⟨d0, d1, d2⟩ := hOb3.ms
          have dl := hOb3.lt
          obtain ⟨c0, c1, lb⟩ := H3.out.cells
          have hBn : wr.heap.size ≤ B := HB.out
          have hlb' := hP.out.lt (x := b) (.inl rfl)
          have hlw' := hP.out.lt (x := mw) (.inr (.inl rfl))
          have hld' := hP.out.lt (x := md) (.inr (.inr rfl))
          have hmdb : md ≠ b := fun e => H3.out.d2 e.symm
          have hmwb : mw ≠ b := fun e => H3.out.d1 e.symm
          have hmdB : md ≠ B := by omega
          have hmwB : mw ≠ B := by omega
          clear hOb3
          go_upto_region 10 with fail
          refine wp_region_plan [(0,0),(1,0),(2,0),(3,1),(4,0),(5,1),(6,0),(7,3)] (by kernel_rfl) (by kernel_rfl) (by kernel_rfl) (Ext w3) (fun _ _ h k => h.trans k) (Ext.drawn _ _) ?_
          iterate 5
            first
              | refine Fx.skip rfl rfl (by simp only [List.set_cons_zero, List.set_cons_succ]; rfl) ?_
              | (with_reducible refine Fx.lab0 ?_
                 first
                   | refine Fx.moveT rfl rfl rfl (by simp only [List.set_cons_zero, List.set_cons_succ]; rfl) ?_
                   | refine Fx.assignT rfl rfl rfl (by simp only [List.set_cons_zero, List.set_cons_succ]; rfl) ?_
                   | refine Fx.pure_ rfl rfl (fun _ => by go_simp; first | done | rfl) (by simp only [List.set_cons_zero, List.set_cons_succ]; rfl) ?_)
              | (with_reducible refine Fx.lab1 ?_
                 refine Fx.look rfl rfl (fun w' hC => by obtain ⟨hc, hf, hl⟩ := Ext.cells hC; go_simp; rfl) (by simp only [List.set_cons_zero, List.set_cons_succ]; rfl) ?_)
          refine Fx.look rfl rfl (op_load_Id' dl d0 d1 rfl) (by simp only [List.set_cons_zero, List.set_cons_succ]; rfl) ?_
          first
            | refine Fx.skip rfl rfl (by simp only [List.set_cons_zero, List.set_cons_succ]; rfl) ?_
            | (with_reducible refine Fx.lab0 ?_
               first
                 | refine Fx.moveT rfl rfl rfl (by simp only [List.set_cons_zero, List.set_cons_succ]; rfl) ?_
                 | refine Fx.assignT rfl rfl rfl (by simp only [List.set_cons_zero, List.set_cons_succ]; rfl) ?_
                 | refine Fx.pure_ rfl rfl (fun _ => by go_simp; first | done | rfl) (by simp only [List.set_cons_zero, List.set_cons_succ]; rfl) ?_)
            | (with_reducible refine Fx.lab1 ?_
               refine Fx.look rfl rfl (fun w' hC => by obtain ⟨hc, hf, hl⟩ := Ext.cells hC; go_simp; rfl) (by simp only [List.set_cons_zero, List.set_cons_succ]; rfl) ?_)
          refine Fx.eff0 (fun w' => MapIs w' md idV unV (kput (m.f, m.c) () τ.dn) ∧ Mods (· = md) w3 w') (fun _ _ h k => ⟨h.1.ext k, h.2.then_ k⟩) rfl rfl (fun w' hC => ?_) ?_
          · refine stepAt_mono (stepAt_upd (k := (m.f, m.c)) (v := ()) (H3.out.dn.ext hC) keysId Try.underlying57 rfl rfl rfl) (fun _ w'' hh => ⟨hh.1, hh.2.after hC⟩)
          refine Fx.done (fun w4 hC => ?_)
          obtain ⟨hm4, hM4⟩ := hC
          have H4 := Lib.hid (H3.out.putD hm4 hM4)
          have HM4 := Lib.hid hM4
          have HOb4 := Lib.hid (HOb3.out.mods hM4 (fun e => hmdB e.symm))
          clear hm4 hM4 d0 d1 d2 dl c0 c1 lb
          obtain ⟨d0, d1, d2⟩ := HOb4.out.ms
          have dl := HOb4.out.lt
          obtain ⟨c0, c1, lb⟩ := H4.out.cells
          go_upto_region 11 with fail
          refine wp_region_plan [(0,0),(1,0),(2,0),(3,1),(4,0),(5,1),(6,3)] (by kernel_rfl) (by kernel_rfl) (by kernel_rfl) (Ext w4) (fun _ _ h k => h.trans k) (Ext.drawn _ _) ?_
          iterate 5
            first
              | refine Fx.skip rfl rfl (by simp only [List.set_cons_zero, List.set_cons_succ]; rfl) ?_
              | (with_reducible refine Fx.lab0 ?_
                 first
                   | refine Fx.moveT rfl rfl rfl (by simp only [List.set_cons_zero, List.set_cons_succ]; rfl) ?_
                   | refine Fx.assignT rfl rfl rfl (by simp only [List.set_cons_zero, List.set_cons_succ]; rfl) ?_
                   | refine Fx.pure_ rfl rfl (fun _ => by go_simp; first | done | rfl) (by simp only [List.set_cons_zero, List.set_cons_succ]; rfl) ?_)
              | (with_reducible refine Fx.lab1 ?_
                 refine Fx.look rfl rfl (fun w' hC => by obtain ⟨hc, hf, hl⟩ := Ext.cells hC; go_simp; rfl) (by simp only [List.set_cons_zero, List.set_cons_succ]; rfl) ?_)
          refine Fx.look rfl rfl (op_load_Id' dl d0 d1 rfl) (by simp only [List.set_cons_zero, List.set_cons_succ]; rfl) ?_
          refine Fx.eff0 (fun w' => MapIs w' mw idV Ms.val (kdel (m.f, m.c) τ.wt) ∧ Mods (· = mw) w4 w') (fun _ _ h k => ⟨h.1.ext k, h.2.then_ k⟩) rfl rfl (fun w' hC => ?_) ?_
          · exact stepAt_mono (stepAt_del (k := (m.f, m.c)) (H4.out.wt.ext hC) keysId Try.underlying56 rfl rfl) (fun _ w'' hh => ⟨hh.1, hh.2.after hC⟩)
          refine Fx.done (fun w5 hC => ?_)
          obtain ⟨hm5, hM5⟩ := hC
          have H5 := Lib.hid (H4.out.putW hm5 hM5)
          have HM5 := Lib.hid hM5
          have HOb5 := Lib.hid (HOb4.out.mods hM5 (fun e => hmwB e.symm))
          clear hm5 hM5 d0 d1 d2 dl c0 c1 lb
          obtain ⟨d0, d1, d2⟩ := HOb5.out.ms
          have dl := HOb5.out.lt
          have hm35 : Mods (FP b mw md) wr w5 := ((HE3.out.mods _).trans HM4.out (fun x _ h => .inr (.inr h))).trans HM5.out (fun x _ h => .inr (.inl h))
          have hno : ∀ x, nv.ownBlock = some x → ¬ FP b mw md x := fun x hx hf => by
            have h1 := hF.out x hx
            have h2 := H.out.lt hf
            omega
          have HNo := Lib.hid hno
          have HO5 := Lib.hid (hO.out.mods hm35 hno)
          have HM35 := Lib.hid hm35
          clear hm35 hno
          go_upto_region 12 with fail
          refine wp_region_line [(0,0),(1,1),(2,2),(3,3),(4,0)] (by kernel_rfl) (by kernel_rfl) (Ext w5) (fun _ _ h k => h.trans k) (Ext.refl _) ?_
          first
            | refine Fx.skip rfl rfl (by simp only [List.set_cons_zero, List.set_cons_succ]; rfl) ?_
            | (with_reducible refine Fx.lab0 ?_
               first
                 | refine Fx.moveT rfl rfl rfl (by simp only [List.set_cons_zero, List.set_cons_succ]; rfl) ?_
                 | refine Fx.assignT rfl rfl rfl (by simp only [List.set_cons_zero, List.set_cons_succ]; rfl) ?_
                 | refine Fx.pure_ rfl rfl (fun _ => by go_simp; first | done | rfl) (by simp only [List.set_cons_zero, List.set_cons_succ]; rfl) ?_)
            | (with_reducible refine Fx.lab1 ?_
               refine Fx.look rfl rfl (fun w' hC => by obtain ⟨hc, hf, hl⟩ := Ext.cells hC; go_simp; rfl) (by simp only [List.set_cons_zero, List.set_cons_succ]; rfl) ?_)
          refine Fx.look rfl rfl (op_load_Ms' (m := m) dl d0 d1 d2 rfl) (by simp only [List.set_cons_zero, List.set_cons_succ]; rfl) ?_
          refine Fx.mkSl 1 1 (fun B w' => MsL w' (.slice (some ⟨B, 0, none⟩) 1 1) [m]) (fun B _ _ h k => h.ext k) rfl rfl (fun w' hC => stepAt_lit1 hC m rfl) (fun B2 => ?_)
          simp only [List.set_cons_zero, List.set_cons_succ]
          refine Fx.eff (fun v' w' => OwnMs w' v' (N ++ [m]) ∧ Mods (fun c => nv.ownBlock = some c) w5 w' ∧ (∀ c, v'.ownBlock = some c → nv.ownBlock = some c ∨ w5.heap.size ≤ c)) (fun v _ _ h k => ⟨h.1.ext k, h.2.1.then_ k, h.2.2⟩) rfl rfl
            (fun w' hC => stepAt_append hC.1 (HO5.out.ext hC.1) hC.2 (by have := HDl.out; simp; omega) rfl rfl) (fun lv' => ?_)
          simp only [List.set_cons_zero, List.set_cons_succ]
          first
            | refine Fx.skip rfl rfl (by simp only [List.set_cons_zero, List.set_cons_succ]; rfl) ?_
            | (with_reducible refine Fx.lab0 ?_
               first
                 | refine Fx.moveT rfl rfl rfl (by simp only [List.set_cons_zero, List.set_cons_succ]; rfl) ?_
                 | refine Fx.assignT rfl rfl rfl (by simp only [List.set_cons_zero, List.set_cons_succ]; rfl) ?_
                 | refine Fx.pure_ rfl rfl (fun _ => by go_simp; first | done | rfl) (by simp only [List.set_cons_zero, List.set_cons_succ]; rfl) ?_)
            | (with_reducible refine Fx.lab1 ?_
               refine Fx.look rfl rfl (fun w' hC => by obtain ⟨hc, hf, hl⟩ := Ext.cells hC; go_simp; rfl) (by simp only [List.set_cons_zero, List.set_cons_succ]; rfl) ?_)
          refine Fx.done (fun w6 hC => ?_)
          obtain ⟨hA1, hA2, hA3⟩ := hC
          have HA1 := Lib.hid hA1
          have HA2 := Lib.hid hA2
          have HA3 := Lib.hid hA3
          clear hA1 hA2 hA3 d0 d1 d2
          go_wp2
          go_roundw
          case rel =>
            refine ⟨k + 1, _, rfl, by go_num, by omega, Lib.hid ?_, Lib.hid ?_, Lib.hid ?_, Lib.hid ?_⟩
            · rw [Hn.out]
              have e : done1 τ m = ⟨kdel (m.f, m.c) τ.wt, kput (m.f, m.c) () τ.dn⟩ := by unfold done1; rw [Hq.out]; rfl
              rw [e]
              exact H5.out.mods HA2.out (fun x hx h => HNo.out x h hx)
            · rw [Hd.out]; exact HA1.out
            · exact (hM.out.trans HM35.out (fun _ _ h => h)).trans HA2.out (fun x hx h => by have := hF.out x h; omega)
            · intro x hx
              rcases HA3.out x hx with h | h
              · exact hF.out x h
              · have := hM.out.size; have := HM35.out.size; omega
          case measure => simp [intOf]; omega
      · have hkl : k = l.length := by omega
        go_wp2
        go_ret2
        have e1 : l.take k = l := by rw [hkl, List.take_length]
        rw [e1] at hP hO
        refine ⟨_, by unfold doneE; rw [Hr.out]; rfl, ?_, ?_, hM.out, hF.out⟩
        · unfold doneS; rw [Hr.out]; exact hP.out
        · unfold doneA; rw [Hr.out]; exact hO.out
end Go.Proofs.Ytkkcdoajdhbofaa
