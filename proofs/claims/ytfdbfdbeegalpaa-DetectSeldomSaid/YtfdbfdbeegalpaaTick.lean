/-
  detect.Detector: Tick.
-/
import Derived.Test.YtfdbfdbeegalpaaSus
import Derived.Test.YtfdbfdbeegalpaaHear
namespace Go.Proofs.Ytfdbfdbeegalpaa
open Go.RowKit
attribute [local go_sem] Oper.semAt_some

theorem tick_nil (w : World) (t : Int) : Calls Try.prog 9 #[.pointer none, .int .u64 t] w fun e w' => e = .returned (.tuple #[.slice none 0 0, .int .i64 1]) ∧ Ext w w' := by
  have E1 := Ext.alloc w (.cells #[.pointer none] 24)
  have E2 := Ext.alloc (w.alloc (.cells #[.pointer none] 24)) (.cells #[.int .u64 t] 22)
  have HE := Lib.hid (E1.trans E2)
  clear E1 E2
  go_enter Try.func9, Try.ntmps9
  go_wp2
  go_ret2
  exact ⟨rfl, HE.out⟩
def TickR (b mb : Nat) (σ : DSt) (t : Int) (w : World) (e : Ending) (w' : World) : Prop :=
  ∃ v, e = .returned (.tuple #[v, .int .i64 (tickE σ t)]) ∧ OwnI w' v (ints (tickL σ t)) ∧ DetAt w' b mb (tickS σ t) ∧ Mods (FD b mb) w w' ∧ ∀ y, v.ownBlock = some y → w.heap.size ≤ y ∧ y ≠ b ∧ y ≠ mb
theorem mark_succ (f : Nat → Nd) (l : List Nat) (k : Nat) (hk : k < l.length) : mark f (l.take (k + 1)) = updI (mark f (l.take k)) l[k] { mark f (l.take k) l[k] with s := true } := by
  funext j
  rw [List.take_succ_eq_append_getElem hk]
  unfold updI
  by_cases h : j = l[k]
  · rw [if_pos h, h]
    simp only [mark, List.mem_append, List.mem_singleton, or_true, if_true]
    split <;> rfl
  · rw [if_neg h]
    simp only [mark, List.mem_append, List.mem_singleton, h, or_false]
theorem mark_nil (f : Nat → Nd) : mark f [] = f := by funext j; simp [mark]
theorem late_lt {σ : DSt} {t : Int} {i : Nat} (h : i ∈ lateL σ t) : i < σ.n := by unfold lateL at h; exact List.mem_range.1 (List.mem_filter.1 h).1
theorem late_flt (σ : DSt) (t : Int) : lateL σ t = flt (fun i => decide (i ≠ (passS σ t).self) && (!((passS σ t).nd i).s && decide (((passS σ t).nd i).t < t - ((passS σ t).nd i).h))) (passS σ t).n := rfl
def mkS (σ : DSt) (t : Int) (l : List Nat) : DSt := { passS σ t with nd := mark σ.nd l }

set_option maxRecDepth 100000 in
set_option maxHeartbeats 3200000 in
theorem tick_at {w : World} {b mb : Nat} {σ : DSt} (hM : DetAt w b mb σ) (hO : σ.Ok) (t : Int) :
    Calls Try.prog 9 #[.pointer (some ⟨b, 0, none⟩), .int .u64 t] w (TickR b mb σ t w) := by
  have E1 := Ext.alloc w (.cells #[.pointer (some ⟨b, 0, none⟩)] 24)
  have E2 := Ext.alloc (w.alloc (.cells #[.pointer (some ⟨b, 0, none⟩)] 24)) (.cells #[.int .u64 t] 22)
  have o2 := (box_ptr w b 24).ext E2
  have s1 : (w.alloc (.cells #[.pointer (some ⟨b, 0, none⟩)] 24)).heap.size = w.heap.size + 1 := by simp
  have o3 := Obj_.new (w.alloc (.cells #[.pointer (some ⟨b, 0, none⟩)] 24)) 22 #[.int .u64 t] (fun _ => .int .u64 t) (by intro i hi; simp at hi; subst hi; rfl)
  rw [s1] at o3
  have HE := Lib.hid (E1.trans E2)
  have HM := Lib.hid (hM.ext (E1.trans E2))
  have HO := Lib.hid hO
  have O2 := Lib.hid o2
  have O3 := Lib.hid o3
  have c2 := o2.cell 0 (by decide)
  have l2 := o2.lt
  have c3 := o3.cell 0 (by simp)
  have l3 := o3.lt
  have hbw := hM.lt (x := b) (.inl rfl)
  have hmw := hM.lt (x := mb) (.inr rfl)
  obtain ⟨p, hp⟩ : ∃ p, passB σ t = p := ⟨_, rfl⟩
  obtain ⟨pc, hpc⟩ : ∃ pc : Int, (if p = true then 0 else 70) = pc := ⟨_, rfl⟩
  have Hp := Lib.hid hp
  have Hpc := Lib.hid hpc
  clear hM hO E1 E2 o2 o3 s1 hp hpc
  go_enter Try.func9, Try.ntmps9
  generalize hW : (w.alloc (.cells #[.pointer (some ⟨b, 0, none⟩)] 24)).alloc (.cells #[.int .u64 t] 22) = W at *
  go_upto_region 4 with (go_at_call 16; refine (pass_at HM.out _).mono ?_; rintro e w2 ⟨he, hM2, hm2⟩; rw [Hp.out] at he hM2; rw [Hpc.out] at he; subst he; have HM2 := Lib.hid hM2; have Hm2 := Lib.hid hm2; clear hM2 hm2)
  cases p with
  | false =>
    have hpc : pc = 70 := Hpc.out.symm
    subst hpc
    go_wp2
    go_ret2
    refine ⟨.slice none 0 0, by unfold tickE; rw [Hp.out]; rfl, ?_, ?_, (HE.out.mods _).trans Hm2.out (fun _ _ h => h), fun y hy => by simp [Value.ownBlock] at hy⟩
    · unfold tickL; rw [Hp.out]; exact Own.nil
    · unfold tickS; rw [Hp.out]; exact HM2.out
  | true =>
    have hpc : pc = 0 := Hpc.out.symm
    subst hpc
    have HP2 : Hid (DetAt w2 b mb (passS σ t)) := Lib.hid HM2.out
    have nF2 : ¬ FD b mb w.heap.size := fun h => by rcases h with h | h <;> omega
    have nF3 : ¬ FD b mb (w.heap.size + 1) := fun h => by rcases h with h | h <;> omega
    obtain ⟨xc, xf, xl⟩ := Hm2.out.cells
    replace c2 := (xc _ _ l2 nF2).trans c2
    replace c3 := (xc _ _ l3 nF3).trans c3
    replace l2 := xl _ l2
    replace l3 := xl _ l3
    have Hc2 := Lib.hid c2
    have Hc3 := Lib.hid c3
    have hpt : σ.now ≤ t ∧ t ≤ maxT := by have := Hp.out; unfold passB at this; simpa using this
    have Hpt := Lib.hid hpt
    have hw0 := HE.out.size
    have hw2 := Hm2.out.size
    clear xc xf xl hpt
    go_upto_region 7 with (go_at_call 17; refine (all_at HP2.out HO.out.n16 18 #[.pointer (some ⟨w.heap.size, 0, none⟩), .pointer (some ⟨w.heap.size + 1, 0, none⟩)] (fun args w => callFunc_at _ (by kernel_rfl) args w) (fun i => decide (i ≠ (passS σ t).self) && (!((passS σ t).nd i).s && decide (((passS σ t).nd i).t < t - ((passS σ t).nd i).h))) (fun i _ W hW => lateF_at i ((passS σ t).nd i) (HP2.out.ext hW) ((hW.cells.1 _ _ (cell_lt Hc2.out)).trans Hc2.out) ((hW.cells.1 _ _ (cell_lt Hc3.out)).trans Hc3.out) (HO.out.h0 i) (Int.le_trans (HO.out.h1 i) Hpt.out.1) Hpt.out.2)).mono ?_; rintro e w3 ⟨v, rfl, h1, h2, h3⟩; rw [← late_flt] at h1; obtain ⟨vA, vcap, rfl, -⟩ := h1.val; have H1 := Lib.hid h1; have H2 := Lib.hid h2; have H3 := Lib.hid h3; clear h1 h2 h3)
    obtain ⟨L, hL⟩ : ∃ L, lateL σ t = L := ⟨_, rfl⟩
    have hLn : (ints L).length ≤ 16 := by
      rw [← hL, late_flt]
      exact Nat.le_trans (flt_len _ _) HO.out.n16
    have hLl : ∀ i ∈ L, i < σ.n := fun i hi => late_lt (t := t) (by rw [hL]; exact hi)
    rw [hL] at H1 H3 ⊢
    have HL := Lib.hid hL
    have HLl := Lib.hid hLl
    obtain ⟨xc, xf, xl⟩ := H2.out.cells
    replace c2 := (xc _ _ l2).trans c2
    replace l2 := xl _ l2
    have HD3 : Hid (DetAt w3 b mb (mkS σ t (L.take 0))) := Lib.hid (by
      have := HP2.out.ext H2.out
      unfold mkS
      rw [List.take_zero, mark_nil]
      exact this)
    have hil : (ints L).length = L.length := by simp [ints]
    have HS3 := Lib.hid H2.out.size
    have hvb : ∀ y, (Value.slice vA (ints L).length vcap).ownBlock = some y → w2.heap.size ≤ y := H3.out
    have Hvb := Lib.hid hvb
    clear xc xf xl hL hLl hvb c3 l3 H3
    go_wp2
    go_loopw [24] (fun q wr => ∃ k : Nat, k ≤ L.length ∧ q = .int .i64 k ∧ Hid (DetAt wr b mb (mkS σ t (L.take k))) ∧ Hid (Mods (FD b mb) w3 wr)) (fun q _ => L.length - (intOf q).toNat)
    case atStart => exact ⟨0, Nat.zero_le _, rfl, HD3, Lib.hid (Mods.refl _ _)⟩
    case round =>
      obtain ⟨k, hk, rfl, hD, hMr⟩ := hrel
      have hwk : IntKind.i64.wrap ((k : Int) + 1) = (k : Int) + 1 := IntWalk.i64_in _ ⟨by omega, by omega⟩
      obtain ⟨xc, xf, xl⟩ := hMr.out.cells
      have b2 := (xc _ _ l2 nF2).trans c2
      have bl2 := xl _ l2
      have HOv : Hid (OwnI wr (.slice vA (ints L).length vcap) (ints L)) := Lib.hid (H1.out.mods hMr.out (fun y hy h => by
        have := Hvb.out y hy
        rcases h with h | h <;> omega))
      clear xc xf xl
      by_cases hlt : k < L.length
      · have hltI : (k : Int) < (ints L).length := by omega
        obtain ⟨jb, joff, rfl, hjb, j0⟩ := Sl.at1 (HOv.out.sl (encI_len _)) (show k < (ints L).length by omega)
        have hgi : (ints L)[k]'(by omega) = ((L[k] : Nat) : Int) := by simp [ints]
        rw [hgi] at j0
        have hms := mark_succ σ.nd L k hlt
        have hin := HLl.out L[k] (List.getElem_mem hlt)
        obtain ⟨i, hi⟩ : ∃ i, L[k] = i := ⟨_, rfl⟩
        rw [hi] at j0 hms hin
        obtain ⟨x, hx⟩ : ∃ x, mark σ.nd (L.take k) i = x := ⟨_, rfl⟩
        rw [hx] at hms
        have Hms := Lib.hid hms
        have Hin := Lib.hid hin
        obtain ⟨z0, z1, z2, z3, z4, z5, c6, zfb, lb, zlm⟩ := hD.out.cells
        have hl := look_nd (mkS σ t (L.take k)).n (mkS σ t (L.take k)).nd i
        rw [if_pos (by show 0 ≤ (i : Int) ∧ (i : Int) < (σ.n : Int); omega), Int.toNat_natCast] at hl
        have hl2 : (((kfind (i : Int) (asc (mkS σ t (L.take k)).n (mkS σ t (L.take k)).nd)).map Nd.val).getD (Nd.val nd0) : Value) = x.val := by rw [hl, ← hx]; rfl
        have Hl := Lib.hid hl2
        clear hgi hms hin hi hx hl hl2 z0 z1 z2 z3 z4 z5 zfb zlm hk
        go_upto_region 10 with fail
        refine wp_region_line [(0,1),(1,0),(2,0),(3,1),(4,0),(5,1),(6,2),(7,3)] (by kernel_rfl) (by kernel_rfl) (Ext wr) (fun _ _ h k => h.trans k) (Ext.refl _) ?_
        iterate 5
          first
            | refine Fx.skip rfl rfl (by simp only [List.set_cons_zero, List.set_cons_succ]; rfl) ?_
            | (with_reducible refine Fx.lab0 ?_
               first
                 | refine Fx.moveT rfl rfl rfl (by simp only [List.set_cons_zero, List.set_cons_succ]; rfl) ?_
                 | refine Fx.assignT rfl rfl rfl (by simp only [List.set_cons_zero, List.set_cons_succ]; rfl) ?_
                 | refine Fx.pure_ rfl rfl (fun _ => by go_simp; first | done | rfl) (by simp only [List.set_cons_zero, List.set_cons_succ]; rfl) ?_)
            | (with_reducible refine Fx.lab1 ?_
               refine Fx.look rfl rfl (fun w' hC => by obtain ⟨hc, hf, hl⟩ := Ext.cells hC; go_simp; rfl) (by simp only [List.set_cons_zero, List.set_cons_succ]; rfl) ?_)
        refine Fx.look (v := x.val) rfl rfl (fun w' hC => by rw [op_look (k := (i : Int)) (hD.out.map.ext hC) keysInt Try.underlying49 (zeroNd w') rfl rfl, Hl.out]; rfl) (by simp only [List.set_cons_zero, List.set_cons_succ]; rfl) ?_
        refine Fx.mkPtr (fun B w' => wr.heap.size ≤ B ∧ Obj_ w' B 3 (ndF nd0)) (fun B _ _ h k => ⟨h.1, h.2.ext k⟩) rfl rfl (fun w' hC => stepAt_alloc_Nd hC) (fun B8 => ?_)
        simp only [List.set_cons_zero, List.set_cons_succ]
        refine Fx.eff0 (NdPre wr B8 x) (ndPre_stable _ _ _) rfl rfl (fun w' hC => stepAt_mono (stepAt_store_Nd hC.1 hC.2.1 hC.2.2 x rfl rfl) (fun _ w'' h => ⟨h.1, hC.2.1, h.2⟩)) ?_
        refine Fx.done (fun w4 hC => ?_)
        obtain ⟨hE4, hB8, hO8⟩ := hC
        have HE4 := Lib.hid hE4
        have HB8 := Lib.hid hB8
        have HO8 := Lib.hid hO8
        clear hE4 hB8 hO8 c6 lb j0
        obtain ⟨d0, d1, d2⟩ := HO8.out.nd
        have f2 := HO8.out.free 2
        have dl := HO8.out.lt
        go_upto_region 11 with fail
        refine wp_region_line [(0,0),(1,3)] (by kernel_rfl) (by kernel_rfl) (Ext w4) (fun _ _ h k => h.trans k) (Ext.refl _) ?_
        first
          | refine Fx.skip rfl rfl (by simp only [List.set_cons_zero, List.set_cons_succ]; rfl) ?_
          | (with_reducible refine Fx.lab0 ?_
             first
               | refine Fx.moveT rfl rfl rfl (by simp only [List.set_cons_zero, List.set_cons_succ]; rfl) ?_
               | refine Fx.assignT rfl rfl rfl (by simp only [List.set_cons_zero, List.set_cons_succ]; rfl) ?_
               | refine Fx.pure_ rfl rfl (fun _ => by go_simp; first | done | rfl) (by simp only [List.set_cons_zero, List.set_cons_succ]; rfl) ?_)
          | (with_reducible refine Fx.lab1 ?_
             refine Fx.look rfl rfl (fun w' hC => by obtain ⟨hc, hf, hl⟩ := Ext.cells hC; go_simp; rfl) (by simp only [List.set_cons_zero, List.set_cons_succ]; rfl) ?_)
        refine Fx.store ⟨B8, 2, none⟩ (.bool true) rfl rfl (fun w' hC => by
          obtain ⟨hc, hf, hl⟩ := hC.cells
          have e1 := (hc _ 2 dl).trans d2
          have e2 := (hf _ 2 dl).trans f2
          clear hc hf hl
          go_simp) ?_
        refine Fx.done (fun w6 hC => ?_)
        obtain ⟨wa, x1, x2⟩ := hC
        have HO6 : Hid (Obj_ w6 B8 3 (ndF { x with s := true })) := Lib.hid ((ndF_set x 2 (.bool true) { x with s := true } (fun j hj => by match j, hj with | 0, _ => rfl | 1, _ => rfl | 2, _ => rfl) (HO8.out.ext x1) (by decide)).ext x2)
        have HE6 := Lib.hid (((HE4.out.trans x1).setNew (p := ⟨B8, 2, none⟩) HB8.out (.bool true)).trans x2)
        clear x1 x2 d0 d1 d2 f2 dl
        obtain ⟨y, hy⟩ : ∃ y : Nd, { x with s := true } = y := ⟨_, rfl⟩
        rw [hy] at HO6
        rw [hy] at Hms
        clear hy
        obtain ⟨d0, d1, d2⟩ := HO6.out.nd
        have dl := HO6.out.lt
        have HD6 := Lib.hid (hD.out.ext HE6.out)
        obtain ⟨z0, z1, z2, z3, z4, z5, c6, zfb, lb, zlm⟩ := HD6.out.cells
        obtain ⟨xc, xf, xl⟩ := HE6.out.cells
        replace b2 := (xc _ _ bl2).trans b2
        replace bl2 := xl _ bl2
        clear z0 z1 z2 z3 z4 z5 zfb zlm xc xf xl
        go_upto_region 12 with fail
        refine wp_region_plan [(0,1),(1,0),(2,0),(3,1),(4,0),(5,1),(6,3)] (by kernel_rfl) (by kernel_rfl) (by kernel_rfl) (Ext w6) (fun _ _ h k => h.trans k) (Ext.drawn _ _) ?_
        iterate 5
          first
            | refine Fx.skip rfl rfl (by simp only [List.set_cons_zero, List.set_cons_succ]; rfl) ?_
            | (with_reducible refine Fx.lab0 ?_
               first
                 | refine Fx.moveT rfl rfl rfl (by simp only [List.set_cons_zero, List.set_cons_succ]; rfl) ?_
                 | refine Fx.assignT rfl rfl rfl (by simp only [List.set_cons_zero, List.set_cons_succ]; rfl) ?_
                 | refine Fx.pure_ rfl rfl (fun _ => by go_simp; first | done | rfl) (by simp only [List.set_cons_zero, List.set_cons_succ]; rfl) ?_)
            | (with_reducible refine Fx.lab1 ?_
               refine Fx.look rfl rfl (fun w' hC => by obtain ⟨hc, hf, hl⟩ := Ext.cells hC; go_simp; rfl) (by simp only [List.set_cons_zero, List.set_cons_succ]; rfl) ?_)
        refine Fx.look rfl rfl (op_load_Nd' (m := y) dl d0 d1 d2 rfl) (by simp only [List.set_cons_zero, List.set_cons_succ]; rfl) ?_
        refine Fx.eff0 (fun w' => MapIs w' mb (Value.int .i64) Nd.val (kput (i : Int) y (asc (mkS σ t (L.take k)).n (mkS σ t (L.take k)).nd)) ∧ Mods (· = mb) w6 w') (fun _ _ h k => ⟨h.1.ext k, h.2.then_ k⟩) rfl rfl (fun w' hC => ?_) ?_
        · exact stepAt_mono (stepAt_upd (k := (i : Int)) (v := y) (HD6.out.map.ext hC) keysInt Try.underlying49 rfl rfl rfl) (fun _ w'' hh => ⟨hh.1, hh.2.after hC⟩)
        refine Fx.done (fun w7 hC => ?_)
        have HF := Lib.hid (HD6.out.put Hin.out hC.1 hC.2)
        have HMm := Lib.hid ((hMr.out.trans (HE6.out.mods (FD b mb)) (fun _ _ h => h)).trans hC.2 (fun _ _ h => .inr h))
        clear hC d0 d1 d2 dl c6 lb b2 bl2
        go_wp2
        go_roundw
        case rel => exact ⟨k + 1, by omega, by go_num, Lib.hid (by
          have e : mkS σ t (L.take (k + 1)) = { mkS σ t (L.take k) with nd := updI (mkS σ t (L.take k)).nd i y } := by unfold mkS; rw [Hms.out]
          rw [e]; exact HF.out), HMm⟩
        case measure => simp [intOf]; omega
      · have hkL : k = L.length := by omega
        have hnlt : ¬ (k : Int) < (ints L).length := by omega
        clear b2 bl2
        go_wp2
        go_ret2
        refine ⟨.slice vA L.length vcap, by unfold tickE; rw [Hp.out]; rfl, ?_, ?_, (((HE.out.mods _).trans Hm2.out (fun _ _ h => h)).trans (H2.out.mods _) (fun _ _ h => h)).trans hMr.out (fun _ _ h => h), fun y hy => by have := Hvb.out y (by rw [hil]; exact hy); omega⟩
        · unfold tickL; rw [Hp.out, if_pos rfl, HL.out]; have := HOv.out; rwa [hil] at this
        · unfold tickS
          rw [Hp.out, if_pos rfl, HL.out]
          have := hD.out
          rw [hkL, List.take_length] at this
          exact this
end Go.Proofs.Ytfdbfdbeegalpaa
